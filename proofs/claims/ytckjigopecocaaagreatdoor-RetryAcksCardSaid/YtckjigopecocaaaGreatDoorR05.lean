/- rec: numbers, keys, noughts, fillers. And what follows. -/
import Derived.Test.YtckjigopecocaaaGreatDoorR04
set_option linter.unusedVariables false
set_option linter.unusedSimpArgs false
set_option maxHeartbeats 25600000
set_option maxRecDepth 100000
namespace Go.Proofs.YtckjigopecocaaaGreatDoor
namespace RecW
open Go.RowKit OctMath RecMath NameMath
theorem S_toList (l:List UInt8):(S l).toList=l:=by rw [ByteArray.toList_eq,kg]
theorem an6 (g:Nat) (w:World):Sem.run Tryz.prog (binOp .eql 121 (.func (.func g) #[] #[]) .nilFunc) w=.ok (.bool false) w:=by
 rfl
theorem aqm (n:Int) (w:World):Calls Tryz.prog 215 #[.int .i64 n] w λe w'=>e=.returned (.bool (gm n))/\Drawn w w':=by
 by_cases h1:n < 0
 ·
  have hb:gm n=true:=by unfold gm; rw [decide_eq_true h1]; rfl
  rw [hb];clear hb;go_enter Tryz.func215,Tryz.ntmps215;go_wp2_with fail;go_ret;exact ⟨rfl,Drawn.refl _⟩
 ·
  have hb:gm n=decide (1099511627776 < n):=by unfold gm; rw [decide_eq_false h1]; rfl
  rw [hb];clear hb;go_enter Tryz.func215,Tryz.ntmps215;go_wp2_with fail;go_ret;exact ⟨rfl,Drawn.refl _⟩
theorem aae (n:Nat) (hn:n<=1099511627776) (w:World):Calls Tryz.prog 142 #[.int .i64 (n:Int)] w λe w'=>e=.returned (.string (S (noughts n)))/\Below w.heap.size w w':=by
 have c:=zq (Tryz.strings_Repeat (S [0]) n w (by omega) (by rw [au]; simp; omega))
 have A:(⟨(Lib.repeatL (S [0]).data.toList n).toArray⟩:ByteArray)=S (noughts n):=by
  have h:∀ k,Lib.repeatL [(0:UInt8)] k=List.replicate k 0:=by
   intro k
   induction k with
   | zero=>rfl
   | succ k ih=>rw [Lib.repeatL,ih]; rfl
  unfold S noughts;rw [show ((⟨([0]:List UInt8).toArray⟩:ByteArray)).data.toList=[0] from rfl,h]
 rw [A] at c;generalize noughts n=z at *
 go_enter Tryz.func142,Tryz.ntmps142;go_wp2_with fail;refine c.o.mono ?_;rintro e w' ⟨rfl,hb⟩;have B:=zq hb;clear hb;go_wp2_with fail;go_ret;exact ⟨rfl,B.o⟩
theorem nums_any (g:Nat) (l:List Int) (hl:l.length<=1048576) (hne:l≠[]) (w:World) (hr:∀ j,j < l.length->w.cell? ⟨g,j,none⟩=some (.int .i64 l[j]!)) :
 Calls Tryz.prog 145 #[.slice (some ⟨g,0,none⟩) l.length l.length] w λe w'=>e=.returned (.bool (!(l.any gm)))/\Drawn w w':=by
 have c:=zq (Tryz.slices_ContainsFunc (λn:Int=>Value.int .i64 n) gm 215 #[] (enters_of Tryz.func215 (by kernel_rfl) rfl) g 0 l.length l.length l w (λW x _=>aqm x W) (Nat.le_refl _) (by omega) (λj A=>by rw [Nat.zero_add]; exact hr j A));rw [List.take_length] at c;generalize l.any gm=z at *
 generalize l.length=n at *
 go_enter Tryz.func145,Tryz.ntmps145;go_wp2_with fail;refine c.o.mono ?_;rintro e w' ⟨rfl,q,rfl⟩;go_wp2_with fail;go_ret;exact ⟨rfl,⟨_,rfl⟩⟩
theorem akg (l:List UInt8) (hl:l.length<=1099511627776) (W:World):Calls Tryz.prog 48 #[.string (S l)] W λe w'=>e=.returned (.bool (qc l))/\Below W.heap.size W w':=by
 have X:=au;have Y:=S_toList
 by_cases h0:l=[]
 ·
  have hb:qc l=false:=by subst h0; rfl
  rw [hb];subst h0;clear hb;go_enter Tryz.func48,Tryz.ntmps48;go_wp2_with fail;go_ret;exact ⟨rfl,Below.refl _ _⟩
 ·
  have Z:l.isEmpty=false:=by cases l with | nil=>exact absurd rfl h0 | cons _ _=>rfl
  by_cases h1:16 < l.length
  ·
   have hb:qc l=false:=by unfold qc; rw [decide_eq_false (by omega:¬ l.length<=16)]; simp
   rw [hb];clear hb;go_enter Tryz.func48,Tryz.ntmps48;go_wp2_with fail;go_ret;exact ⟨rfl,Below.refl _ _⟩
  ·
   have hb:qc l=l.all ny:=by unfold qc; rw [decide_eq_true h0,decide_eq_true (by omega:l.length<=16)]; simp
   rw [hb];clear hb h0;have R:l.length<=16:=by omega
   go_enter Tryz.func48,Tryz.ntmps48;go_wp2_with fail;go_loopw [13] (λi wr=>∃ k:Nat,k<=l.length/\i=.int .i64 (k:Int)/\Zq ((l.take k).all ny=true)/\Zq (Below W.heap.size W wr)) (λi _=>l.length+1 - (intOf i).toNat)
   case atStart=>exact ⟨0,by omega,rfl,rfl,Below.refl _ _⟩
   case round =>
    obtain ⟨k,hk,rfl,M,N⟩:=hrel
    by_cases hlt:k < l.length
    ·
     have A:(l.take (k+1)).all ny=((l.take k).all ny && ny l[k]):=by rw [List.take_succ_eq_append_getElem hlt,List.all_append,List.all_cons,List.all_nil,Bool.and_true]
     have F:ny l[k]=false->l.all ny=false:=λh=>by rw [List.all_eq_false]; exact ⟨l[k],List.getElem_mem hlt,by rw [h]; simp⟩
     have I:=zq A;have B:=zq F;clear A F;have E:k < (S l).size:=by rw [au]; exact hlt
     have J:((S l)[k]'E).toNat=l[k].toNat:=by rfl
     cases hks:ny l[k] with
     | true =>
       have U:(l.take (k+1)).all ny=true:=by rw [I.o,M.o,Bool.true_and]; exact hks
       have O:=zq U;unfold ny at hks;simp only [Bool.and_eq_true,decide_eq_true_eq] at hks;have q1:¬ (((S l)[k]'E).toNat:Int) < 33:=by omega
       have q2:¬ 126 < (((S l)[k]'E).toNat:Int):=by omega
       clear I B M U hks J;go_wp2_with fail;go_roundw
       case rel=>exact ⟨k+1,by omega,by go_num,O.o,N.o⟩
       case measure=>simp [intOf]; omega
     | false =>
       have O:Zq (l.all ny=false):=B.o hks;unfold ny at hks;rw [Bool.and_eq_false_iff,decide_eq_false_iff_not,decide_eq_false_iff_not] at hks;clear I B M
       by_cases q1:(((S l)[k]'E).toNat:Int) < 33
       . clear hks J
         go_wp2_with fail;go_ret;rw [O.o];exact ⟨rfl,N.o⟩
       . have q2:126 < (((S l)[k]'E).toNat:Int):=by omega
         clear hks J;go_wp2_with fail;go_ret;rw [O.o];exact ⟨rfl,N.o⟩
    ·
     have ek:k=l.length:=by omega
     subst ek;rw [List.take_length] at M;go_wp2_with fail;go_ret;rw [M.o];exact ⟨rfl,N.o⟩
theorem ag1 (a:Option Addr) (cap:Nat) (ts:List (List UInt8)) (hx:ts.length<=1048576) (hz:∀ t∈ts,t.length<=1099511627776) (W:World) (h:Strs W a (ts.map S)) :
 Calls Tryz.prog 47 #[.func (.func 48) #[] #[],.slice a ts.length cap] W λe w'=>e=.returned (.bool (ts.all qc))/\Below W.heap.size W w':=by
 have Z:=enters_of Tryz.func48 (by kernel_rfl) rfl;have U:=zq h;clear h;go_enter Tryz.func47,Tryz.ntmps47;go_wp2_with fail;go_loopw [9] (λi wr=>∃ k:Nat,k<=ts.length/\i=.int .i64 (k:Int)/\Zq ((ts.take k).all qc=true)/\Zq (Below W.heap.size W wr)) (λi _=>ts.length+1 - (intOf i).toNat)
 case atStart=>exact ⟨0,by omega,rfl,rfl,Below.refl _ _⟩
 case round =>
  obtain ⟨k,hk,rfl,J,M⟩:=hrel
  by_cases hlt:k < ts.length
  ·
   obtain ⟨b,off,rfl,A⟩:=(U.o.below M.o) k (by rw [List.length_map]; exact hlt);rw [List.getElem_map] at A;have B:(ts.take (k+1)).all qc=((ts.take k).all qc && qc ts[k]):=by rw [List.take_succ_eq_append_getElem hlt,List.all_append,List.all_cons,List.all_nil,Bool.and_true]
   have F:qc ts[k]=false->ts.all qc=false:=λh=>by rw [List.all_eq_false]; exact ⟨ts[k],List.getElem_mem hlt,by rw [h]; simp⟩
   have R:=λw=>akg ts[k] (hz _ (List.getElem_mem hlt)) w
   generalize ts[k]=t at *
   have I:=zq B;have E:=zq F;clear B F;have X:=λw=>an6 48 w
   generalize qc t=p at *
   go_wp2_with fail;refine (R _).mono ?_;rintro e w2 ⟨rfl,hb⟩;have N:=zq (M.o.trans (hb.mono M.o.size));clear hb R A M
   cases p with
   | true =>
     have O:Zq ((ts.take (k+1)).all qc=true):=by show _=_; rw [I.o,J.o]; rfl
     clear I E J;go_wp2_with fail;go_roundw
     case rel=>exact ⟨k+1,by omega,by go_num,O,N⟩
     case measure=>simp [intOf]; omega
   | false =>
     have O:Zq (ts.all qc=false):=E.o rfl;clear I E J;go_wp2_with fail;go_ret;rw [O.o];exact ⟨rfl,N.o⟩
  ·
   have Y:k=ts.length:=by omega
   subst Y;rw [List.take_length] at J;go_wp2_with fail;go_ret;rw [J.o];exact ⟨rfl,M.o⟩
def af (m:Msg) (a:Option Addr) (c:Nat):Array Value:=#[.int .i64 m.kind,.int .i64 m.queue,.int .i64 m.due,.int .i64 m.retry,.int .i64 m.ref,.int .i64 m.born,.string (S m.topic),.string (S m.tag),.string (S m.body),.slice a m.keys.length c]
def inI (n:Int):Prop := -9223372036854775808<=n/\n<=9223372036854775807
structure uq (m:Msg):Prop where
 kind:inI m.kind
 queue:inI m.queue
 due:inI m.due
 retry:inI m.retry
 ref:inI m.ref
 born:inI m.born
 topic:m.topic.length<=1073741824
 tag:m.tag.length<=1073741824
 body:m.body.length<=1073741824
 keys:m.keys.length<=1048576
 key:∀ t∈m.keys,t.length<=1073741824
def Boxed (w:World) (B:Nat) (cs:Array Value):Prop:=∀ (k:Nat) (v:Value),cs[k]?=some v->w.cell? ⟨B,k,none⟩=some v
theorem oz {w:World} {A:Nat} {m:Msg} {a:Option Addr} {c:Nat} (h:Boxed w A (af m a c)):w.cell? ⟨A,0,none⟩=some (.int .i64 m.kind)/\w.cell? ⟨A,1,none⟩=some (.int .i64 m.queue)/\w.cell? ⟨A,2,none⟩=some (.int .i64 m.due)/\w.cell? ⟨A,3,none⟩=some (.int .i64 m.retry)/\w.cell? ⟨A,4,none⟩=some (.int .i64 m.ref)/\w.cell? ⟨A,5,none⟩=some (.int .i64 m.born)/\w.cell? ⟨A,6,none⟩=some (.string (S m.topic))/\w.cell? ⟨A,7,none⟩=some (.string (S m.tag))/\w.cell? ⟨A,8,none⟩=some (.string (S m.body))/\w.cell? ⟨A,9,none⟩=some (.slice a m.keys.length c):=⟨h 0 _ rfl,h 1 _ rfl,h 2 _ rfl,h 3 _ rfl,h 4 _ rfl,h 5 _ rfl,h 6 _ rfl,h 7 _ rfl,h 8 _ rfl,h 9 _ rfl⟩
theorem Boxed.below {W w:World} {B:Nat} {cs:Array Value} (h:Boxed W B cs) (hb:Below W.heap.size W w):Boxed w B cs:=λk v e=>by
 have hc:=h k v e;rw [hb.cell (ay hc)]; exact hc
theorem Boxed.new (w:World) (cs:Array Value) (e:TypeId):Boxed (w.alloc (.cells cs e)) w.heap.size cs:=λk v h=>by rw [World.cell?_alloc_new]; exact h
theorem Strs.below {W w:World} {a:Option Addr} {ts:List ByteArray} (h:Strs W a ts) (hb:Below W.heap.size W w):Strs w a ts:=(Row1.of_strs h |>.below hb).to_strs
theorem abu (n:Nat) (xs:List Int) (h1:1<=n) (h7:n<=7) (h:∀ x∈xs,OctW.fits n x):OctW.ol (n:Int) xs=(OctW.numsL n xs,0):=by
 unfold OctW.ol;rw [if_neg (by omega),Int.toNat_natCast,if_pos h]
theorem aaf (w:World) (xs:List Int) (e:TypeId):OctW.Ints (w.alloc (.cells (xs.map λx=>Value.int .i64 x).toArray e)) (some ⟨w.heap.size,0,none⟩) xs:=λi A =>
 ⟨_,0,rfl,by rw [Nat.zero_add,World.cell?_alloc_new]; simp [A]⟩
theorem ag2 (w:World) (xs:List ByteArray) (e:TypeId):Strs (w.alloc (.cells (xs.map λx=>Value.string x).toArray e)) (some ⟨w.heap.size,0,none⟩) xs:=λi A =>
 ⟨_,0,rfl,by rw [Nat.zero_add,World.cell?_alloc_new]; simp [A]⟩
theorem ai8 (a:Option Addr) (cap:Nat) (ts:List (List UInt8)) (hx:ts.length<=1048576) (W:World) (hS:Strs W a (ts.map S)) :
 Calls Tryz.prog 216 #[.slice a ts.length cap] W λe w'=>e=.returned (.bool (decide ts.Nodup))/\Below W.heap.size W w':=by
 have N:=zq (TagW.ad4 a ts.length cap W);have B:Zq (Below W.heap.size W (W.alloc (.cells #[.slice a ts.length cap] 32))):=(Below.refl _ _).alloc (Nat.le_refl _) _;have F:=zq (SeqW.aa1 W.heap.size cap a ts hx (W.alloc (.cells #[.slice a ts.length cap] 32)) (Strs.below hS B.o) (by simp) (by rw [World.cell?_alloc_new]; rfl));have A:(ts.mergeSort (λx y=>decide (x<=y))).length=ts.length:=List.length_mergeSort _
 have I:Zq (decide ts.Nodup=!decide ((Lib.compact (ts.mergeSort (λx y=>decide (x<=y)))).length < ts.length)):=by
  have h1:=DupMath.afj ts;unfold TagW.aql at h1;rw [decide_eq_true_eq] at h1;show _=_
  by_cases h:ts.Nodup
  . rw [decide_eq_true h,decide_eq_false (λR=>h1.1 R h)]; rfl
  . rw [decide_eq_false h,decide_eq_true (h1.2 h)]; rfl
 have U:(Lib.compact (ts.mergeSort (λx y=>decide (x<=y)))).length<=ts.length:=by
  rw [<- A];unfold Lib.compact Lib.compactUpTo;rw [List.length_map];exact Nat.le_trans (List.length_filter_le _ _) (by simp)
 generalize ts.mergeSort (λx y=>decide (x<=y))=ss at *
 clear hS;go_enter Tryz.func216,Tryz.ntmps216;go_wp2_with fail;refine N.o.mono ?_;rintro e w2 ⟨rfl,rfl⟩;clear N;go_wp2_with fail;refine F.o.mono ?_;rintro e w3 ⟨v,rfl,E,hb⟩;have M:=zq (B.o.trans (hb.mono B.o.size));have O:=zq (TagW.acx W.heap.size v ss (by omega) W w3 M.o (by rw [A]; exact SeqW.own_base E B.o.size));generalize (Lib.compact ss).length=cn at *
 generalize ts.length=tn at *
 clear E hb F A;go_wp2_with fail;refine O.o.mono ?_;rintro e w4 ⟨⟨a4,c4,rfl⟩,hb⟩;have J:=zq hb;clear hb O
 by_cases h:cn=tn
 ·
  subst h;go_wp2_with fail;go_ret;exact ⟨bf (by rw [I.o]; simp),J.o⟩
 ·
  have X:¬ (cn:Int)=(tn:Int):=by omega
  go_wp2_with fail;go_ret;exact ⟨bf (by rw [I.o,decide_eq_true (by omega:cn < tn)]; first | rfl | (simp; omega)),J.o⟩
theorem ag3 (n:Int) (h1 : -9223372036854775808<=n) (h2:n<=1099511627776) (w:World) :
 Calls Tryz.prog 190 #[.int .i64 n] w λe w'=>e=.returned (.tuple #[.string (S (oo n)),.bool (decide (3<=n/\n<=1024))])/\Below w.heap.size w w':=by
 by_cases ha:n < 3
 ·
  have A:oo n=[]:=by unfold oo; rw [if_pos (.inl ha)]
  rw [A,decide_eq_false (by omega)];clear A;go_enter Tryz.func190,Tryz.ntmps190;go_wp2_with fail;go_ret2;exact ⟨rfl,Below.refl _ _⟩
 ·
  by_cases hb:1024 < n
  ·
   have A:oo n=[]:=by unfold oo; rw [if_pos (.inr hb)]
   rw [A,decide_eq_false (by omega)];clear A;go_enter Tryz.func190,Tryz.ntmps190;go_wp2_with fail;go_ret2;exact ⟨rfl,Below.refl _ _⟩
  ·
   obtain ⟨k,rfl⟩:∃ k:Nat,n=(k:Int):=⟨n.toNat,by omega⟩;rw [decide_eq_true (by omega)];have A:oo (k:Int)=90 :: be 2 k++noughts (k - 3):=by unfold oo; rw [if_neg (by omega),Int.toNat_natCast]
   have O:Zq (S [90]++S (be 2 k)++S (noughts (k - 3))=S (oo (k:Int))):=by show _=_; rw [gu,gu,A]; rfl
   have B:Zq (Below w.heap.size w (w.alloc (.cells #[.int .i64 (k:Int)] 3))):=(Below.refl _ _).alloc (Nat.le_refl _) _
   have E:OctW.ol 2 [(k:Int)]=(be 2 k,0):=by
    rw [show (2:Int)=((2:Nat):Int) from rfl,abu 2 _ (by omega) (by omega) (λx N=>by rw [List.mem_singleton] at N; subst N; exact ⟨by omega,by show (k:Int) < ((256 ^ 2:Nat):Int); omega⟩)];simp [OctW.numsL]
   have R:=zq (OctW.nums_any 2 (by omega) (by omega) (some ⟨w.heap.size,0,none⟩) 1 [(k:Int)] (by simp) (λx N=>by simp at N; omega) (w.alloc (.cells #[.int .i64 (k:Int)] 3)) (aaf w [(k:Int)] _));rw [E] at R;have F:((k - 3:Nat):Int)=(k:Int) - 3:=by omega
   have U:=zq (λ(w2:World)=>aae (k - 3) (by omega) w2);rw [F] at U;have Y:(S (be 2 k)).size=2:=by rw [au,bn]
   have Z:(S (noughts (k - 3))).size<=1024:=by rw [au]; unfold noughts; simp; omega
   generalize S (be 2 k)=s1 at *
   generalize S (noughts (k - 3))=s2 at *
   clear E A F;go_enter Tryz.func190,Tryz.ntmps190;go_wp2_with fail;refine R.o.mono ?_;rintro e w2 ⟨rfl,I⟩;have J:=zq (B.o.trans (I.mono B.o.size));clear I R;go_wp2_with fail;refine (U.o _).mono ?_;rintro e w3 ⟨rfl,M⟩;have X:=zq (J.o.trans (M.mono J.o.size));clear M U;go_wp2_with fail;go_ret2;exact ⟨by rw [<- O.o]; rfl,X.o⟩
theorem aag (m:Msg) (hm:uq m) (a:Option Addr) (c:Nat) (W:World) (hS:Strs W a (m.keys.map S)) :
 Calls Tryz.prog 146 #[.agg (af m a c)] W λe w'=>e=.returned (.bool (bu m))/\Below W.heap.size W w':=by
 have M:Zq (Below W.heap.size W (W.alloc (.cells (af m a c) 71))):=(Below.refl _ W).alloc (Nat.le_refl _) _;have HX:Zq (Boxed (W.alloc (.cells (af m a c) 71)) W.heap.size (af m a c)):=Boxed.new W _ _;have ao:=zq (Strs.below hS M.o);have X:=zq (λw=>NameW.aas m.topic (by have:=hm.topic; omega) w);have Y:=zq (λw=>NameW.akf m.tag (by have:=hm.tag; omega) w);have Z:=zq (λw (h:Strs w a (m.keys.map S))=>ag1 a c m.keys hm.keys (λt ht=>by have:=hm.key t ht; omega) w h);have ab:=zq (λw (h:Strs w a (m.keys.map S))=>ai8 a c m.keys hm.keys w h);have E:Zq (bu m=(jq m.topic && decide (0<=m.queue) && decide (m.queue < 3) && decide (0<=m.retry) && decide (m.retry<=4) && (m.tag.isEmpty || ik m.tag) && decide (m.keys.length<=3) && m.keys.all qc && decide m.keys.Nodup && decide (m.body.length<=200))):=rfl;have a8:=au;have ap:(af m a c).size=10:=rfl;have ba:m.keys.length<=1048576:=hm.keys;have bb:m.body.length<=1073741824:=hm.body;clear hm hS;go_enter Tryz.func146,Tryz.ntmps146;go_upto_region 1 with fail
 generalize W.alloc (.cells (af m a c) 71)=w1 at *
 clear ap;obtain ⟨A,J⟩:∃ A,W.heap.size=A:=⟨_,rfl⟩;rw [J] at HX M ⊢;have k6:w1.cell? ⟨A,6,none⟩=some (.string (S m.topic)):=HX.o 6 _ rfl;go_wp2_with fail;refine (X.o w1).mono ?_;rintro e w2 ⟨rfl,hb⟩;have I:=zq (M.o.trans (hb.mono (by have h9:=M.o.size; omega)));have N:Zq (Boxed w2 A (af m a c)):=HX.o.below hb;have av:=zq (Strs.below ao.o hb);clear hb;generalize jq m.topic=tp at *
 cases tp with
 | false =>
   have B:bu m=false:=by rw [E.o]; simp
   have F:=zq B;clear B E;go_wp2_with fail;go_ret;exact ⟨bf (by rw [F.o]),J ▸ I.o⟩
 | true =>
   have k1:w2.cell? ⟨A,1,none⟩=some (.int .i64 m.queue):=N.o 1 _ rfl;have k3:w2.cell? ⟨A,3,none⟩=some (.int .i64 m.retry):=N.o 3 _ rfl;have k7:w2.cell? ⟨A,7,none⟩=some (.string (S m.tag)):=N.o 7 _ rfl
   by_cases h1:0<=m.queue
   case neg =>
    have B:bu m=false:=by rw [E.o]; rw [decide_eq_false h1]; simp
    have F:=zq B;clear B E;go_wp2_with fail;go_ret;exact ⟨bf (by rw [F.o]),J ▸ I.o⟩
   by_cases h2:m.queue < 3
   case neg =>
    have B:bu m=false:=by rw [E.o]; rw [decide_eq_false h2]; simp
    have F:=zq B;clear B E;go_wp2_with fail;go_ret;exact ⟨bf (by rw [F.o]),J ▸ I.o⟩
   by_cases h3:0<=m.retry
   case neg =>
    have B:bu m=false:=by rw [E.o]; rw [decide_eq_false h3]; simp
    have F:=zq B;clear B E;go_wp2_with fail;go_ret;exact ⟨bf (by rw [F.o]),J ▸ I.o⟩
   by_cases h4:m.retry<=4
   case neg =>
    have B:bu m=false:=by rw [E.o]; rw [decide_eq_false h4]; simp
    have F:=zq B;clear B E;go_wp2_with fail;go_ret;exact ⟨bf (by rw [F.o]),J ▸ I.o⟩
   go_wp2_with fail;refine (Y.o w2).mono ?_;rintro e w3 ⟨rfl,hb⟩;have O:=zq (I.o.trans (hb.mono (by have h9:=I.o.size; omega)));have ac:Zq (Boxed w3 A (af m a c)):=N.o.below hb;have ad:=zq (Strs.below av.o hb);clear hb;generalize (m.tag.isEmpty || ik m.tag)=tg at *
   cases tg with
   | false =>
     have B:bu m=false:=by rw [E.o]; simp
     have F:=zq B;clear B E;go_wp2_with fail;go_ret;exact ⟨bf (by rw [F.o]),J ▸ O.o⟩
   | true =>
     have k9:w3.cell? ⟨A,9,none⟩=some (.slice a m.keys.length c):=ac.o 9 _ rfl
     by_cases h5:m.keys.length<=3
     case neg =>
      have B:bu m=false:=by rw [E.o]; rw [decide_eq_false h5]; simp
      have F:=zq B;clear B E;go_wp2_with fail;go_ret;exact ⟨bf (by rw [F.o]),J ▸ O.o⟩
     go_wp2_with fail;refine (Z.o w3 ad.o).mono ?_;rintro e w4 ⟨rfl,hb⟩;have R:=zq (O.o.trans (hb.mono (by have h9:=O.o.size; omega)));have al:Zq (Boxed w4 A (af m a c)):=ac.o.below hb;have am:=zq (Strs.below ad.o hb);clear hb;generalize m.keys.all qc=ak at *
     cases ak with
     | false =>
       have B:bu m=false:=by rw [E.o]; simp
       have F:=zq B;clear B E;go_wp2_with fail;go_ret;exact ⟨bf (by rw [F.o]),J ▸ R.o⟩
     | true =>
       have bc:w4.cell? ⟨A,9,none⟩=some (.slice a m.keys.length c):=al.o 9 _ rfl;go_wp2_with fail;refine (ab.o w4 am.o).mono ?_;rintro e w5 ⟨rfl,hb⟩;have U:=zq (R.o.trans (hb.mono (by have h9:=R.o.size; omega)));have a1:Zq (Boxed w5 A (af m a c)):=al.o.below hb;have bd:=zq (Strs.below am.o hb);clear hb;generalize decide m.keys.Nodup=nd at *
       cases nd with
       | false =>
         have B:bu m=false:=by rw [E.o]; simp
         have F:=zq B;clear B E;go_wp2_with fail;go_ret;exact ⟨bf (by rw [F.o]),J ▸ U.o⟩
       | true =>
         have k8:w5.cell? ⟨A,8,none⟩=some (.string (S m.body)):=a1.o 8 _ rfl;have B:bu m=decide (m.body.length<=200):=by rw [E.o,decide_eq_true h1,decide_eq_true h2,decide_eq_true h3,decide_eq_true h4,decide_eq_true h5]; simp
         have F:=zq B;clear B E
         by_cases h6:m.body.length<=200
         case pos =>
          go_wp2_with fail;go_ret;exact ⟨bf (by rw [F.o]; simp; first | exact h6 | omega),J ▸ U.o⟩
         case neg =>
          go_wp2_with fail;go_ret;exact ⟨bf (by rw [F.o]; simp; first | exact h6 | omega),J ▸ U.o⟩
theorem alp {a b:List (List UInt8)}:a.map S=b.map S↔a=b:=by
 constructor
 ·
  intro h;have:=congrArg (List.map λx:ByteArray=>x.data.toList) h;rw [List.map_map,List.map_map] at this;have e:((λx:ByteArray=>x.data.toList) ∘ S)=id:=by funext x; exact kg x
  rwa [e,List.map_id,List.map_id] at this
 . rintro rfl; rfl
theorem alq (a b:Option Addr) (c d:Nat) (xs ys:List (List UInt8)) (hx:xs.length<=1048576) (hy:ys.length<=1048576) (w:World) (h:Strs w a (xs.map S)) (h2:Strs w b (ys.map S)) :
 Calls Tryz.prog 217 #[.slice a xs.length c,.slice b ys.length d] w λe w'=>e=.returned (.bool (decide (xs=ys)))/\Drawn w w':=by
 by_cases hl:xs.length=ys.length
 ·
  rcases Nat.eq_zero_or_pos xs.length with h0 | h0
  ·
   have F:xs=[]:=List.eq_nil_of_length_eq_zero h0;have I:ys=[]:=List.eq_nil_of_length_eq_zero (hl.symm.trans h0);subst F I;refine (Tryz.slices_Equal_string_empty a b c 0 d w (by omega)).mono ?_;rintro e w' ⟨rfl,rfl⟩;exact ⟨rfl,Drawn.refl _⟩
  ·
   obtain ⟨J,M,rfl,_⟩:=h 0 (by rw [List.length_map]; omega);obtain ⟨N,O,rfl,_⟩:=h2 0 (by rw [List.length_map]; omega)
   have hc:∀ {b o:Nat} {B:List (List UInt8)},Strs w (some ⟨b,o,none⟩) (B.map S)->∀ j,j < (B.map S).length->w.cell? ⟨b,o+j,none⟩=some (.string ((B.map S).getD j ByteArray.empty)):=by
    intro b o B R j E;obtain ⟨U,X,e,A⟩:=R j E
    cases e
    rw [A];simp [List.getD_eq_getElem?_getD,List.getElem?_eq_getElem E]
   have:=Tryz.slices_Equal_string J M xs.length c N O ys.length d (xs.map S) (ys.map S) w (by simp) (by simp) (by omega) (by omega) (hc h) (hc h2);refine this.mono ?_;rintro e w' ⟨rfl,q,rfl⟩;refine ⟨?_,⟨q,rfl⟩⟩;rw [List.take_of_length_le (by simp),List.take_of_length_le (by simp)];congr 2;exact decide_eq_decide.2 alp
 . refine (Tryz.slices_Equal_string_lens a b xs.length c ys.length d w hl).mono ?_
   rintro e w' ⟨rfl,rfl⟩;exact ⟨bf (decide_eq_false (λe=>hl (by rw [e]))).symm,Drawn.refl _⟩
theorem ag4 (x y:Msg) (hx:uq x) (hy:uq y) (a b:Option Addr) (c d:Nat) (W:World) (hS:Strs W a (x.keys.map S)) (hS2:Strs W b (y.keys.map S)) :
 Calls Tryz.prog 147 #[.agg (af x a c),.agg (af y b d)] W λe w'=>e=.returned (.bool (decide (x=y)))/\Below W.heap.size W w':=by
 have E:Zq (Below W.heap.size W ((W.alloc (.cells (af x a c) 71)).alloc (.cells (af y b d) 71))):=((Below.refl _ W).alloc (Nat.le_refl _) _).alloc (by simp) _;have I:Zq (Boxed ((W.alloc (.cells (af x a c) 71)).alloc (.cells (af y b d) 71)) W.heap.size (af x a c)):=(Boxed.new W _ _).below ((Below.refl _ _).alloc (Nat.le_refl _) _)
 have J:Zq (Boxed ((W.alloc (.cells (af x a c) 71)).alloc (.cells (af y b d) 71)) (W.heap.size+1) (af y b d)):=by
  have:=Boxed.new (W.alloc (.cells (af x a c) 71)) (af y b d) 71;rw [World.size_alloc] at this; exact this
 have N:=zq (alq a b c d x.keys y.keys hx.keys hy.keys _ (Strs.below hS E.o) (Strs.below hS2 E.o));have U:=S_toList;have O:(af x a c).size=10:=rfl;have R:(af y b d).size=10:=rfl;clear hx hy hS hS2;go_enter Tryz.func147,Tryz.ntmps147;go_upto_region 1 with fail
 generalize (W.alloc (.cells (af x a c) 71)).alloc (.cells (af y b d) 71)=w1 at *
 clear O R;obtain ⟨B,X⟩:∃ B,W.heap.size+1=B:=⟨_,rfl⟩;rw [X] at J ⊢;obtain ⟨A,M⟩:∃ A,W.heap.size=A:=⟨_,rfl⟩;rw [M] at I ⊢ E;have Z:w1.cell? ⟨A,0,none⟩=some (.int .i64 x.kind):=I.o 0 _ rfl;have l0:w1.cell? ⟨B,0,none⟩=some (.int .i64 y.kind):=J.o 0 _ rfl;have k1:w1.cell? ⟨A,1,none⟩=some (.int .i64 x.queue):=I.o 1 _ rfl;have l1:w1.cell? ⟨B,1,none⟩=some (.int .i64 y.queue):=J.o 1 _ rfl;have k2:w1.cell? ⟨A,2,none⟩=some (.int .i64 x.due):=I.o 2 _ rfl;have l2:w1.cell? ⟨B,2,none⟩=some (.int .i64 y.due):=J.o 2 _ rfl;have k3:w1.cell? ⟨A,3,none⟩=some (.int .i64 x.retry):=I.o 3 _ rfl;have l3:w1.cell? ⟨B,3,none⟩=some (.int .i64 y.retry):=J.o 3 _ rfl;have k4:w1.cell? ⟨A,4,none⟩=some (.int .i64 x.ref):=I.o 4 _ rfl;have l4:w1.cell? ⟨B,4,none⟩=some (.int .i64 y.ref):=J.o 4 _ rfl;have k5:w1.cell? ⟨A,5,none⟩=some (.int .i64 x.born):=I.o 5 _ rfl;have l5:w1.cell? ⟨B,5,none⟩=some (.int .i64 y.born):=J.o 5 _ rfl;have k6:w1.cell? ⟨A,6,none⟩=some (.string (S x.topic)):=I.o 6 _ rfl;have l6:w1.cell? ⟨B,6,none⟩=some (.string (S y.topic)):=J.o 6 _ rfl;have k7:w1.cell? ⟨A,7,none⟩=some (.string (S x.tag)):=I.o 7 _ rfl;have l7:w1.cell? ⟨B,7,none⟩=some (.string (S y.tag)):=J.o 7 _ rfl;have k8:w1.cell? ⟨A,8,none⟩=some (.string (S x.body)):=I.o 8 _ rfl;have l8:w1.cell? ⟨B,8,none⟩=some (.string (S y.body)):=J.o 8 _ rfl;have k9:w1.cell? ⟨A,9,none⟩=some (.slice a x.keys.length c):=I.o 9 _ rfl;have l9:w1.cell? ⟨B,9,none⟩=some (.slice b y.keys.length d):=J.o 9 _ rfl
 by_cases h0:x.kind=y.kind
 case neg =>
  have F:Zq (decide (x=y)=false):=decide_eq_false (λe=>h0 (by rw [e]));go_wp2_with fail;go_ret;exact ⟨bf F.o.symm,M ▸ E.o⟩
 by_cases h1:x.queue=y.queue
 case neg =>
  have F:Zq (decide (x=y)=false):=decide_eq_false (λe=>h1 (by rw [e]));go_wp2_with fail;go_ret;exact ⟨bf F.o.symm,M ▸ E.o⟩
 by_cases h2:x.due=y.due
 case neg =>
  have F:Zq (decide (x=y)=false):=decide_eq_false (λe=>h2 (by rw [e]));go_wp2_with fail;go_ret;exact ⟨bf F.o.symm,M ▸ E.o⟩
 by_cases h3:x.retry=y.retry
 case neg =>
  have F:Zq (decide (x=y)=false):=decide_eq_false (λe=>h3 (by rw [e]));go_wp2_with fail;go_ret;exact ⟨bf F.o.symm,M ▸ E.o⟩
 by_cases h4:x.ref=y.ref
 case neg =>
  have F:Zq (decide (x=y)=false):=decide_eq_false (λe=>h4 (by rw [e]));go_wp2_with fail;go_ret;exact ⟨bf F.o.symm,M ▸ E.o⟩
 by_cases h5:x.born=y.born
 case neg =>
  have F:Zq (decide (x=y)=false):=decide_eq_false (λe=>h5 (by rw [e]));go_wp2_with fail;go_ret;exact ⟨bf F.o.symm,M ▸ E.o⟩
 by_cases h6:x.topic=y.topic
 case neg =>
  have F:Zq (decide (x=y)=false):=decide_eq_false (λe=>h6 (by rw [e]));go_wp2_with fail;go_ret;exact ⟨bf F.o.symm,M ▸ E.o⟩
 by_cases h7:x.tag=y.tag
 case neg =>
  have F:Zq (decide (x=y)=false):=decide_eq_false (λe=>h7 (by rw [e]));go_wp2_with fail;go_ret;exact ⟨bf F.o.symm,M ▸ E.o⟩
 by_cases h8:x.body=y.body
 case neg =>
  have F:Zq (decide (x=y)=false):=decide_eq_false (λe=>h8 (by rw [e]));go_wp2_with fail;go_ret;exact ⟨bf F.o.symm,M ▸ E.o⟩
 have F:Zq (decide (x=y)=decide (x.keys=y.keys)):=decide_eq_decide.2 ⟨λe=>by rw [e],λe=>by
  cases x; cases y; simp only at *; subst h0 h1 h2 h3 h4 h5 h6 h7 h8 e; rfl⟩
 generalize decide (x.keys=y.keys)=ke at *
 go_wp2_with fail;refine N.o.mono ?_;rintro e w2 ⟨rfl,hd⟩;have Y:=zq hd;clear hd N;go_wp2_with fail;go_ret;exact ⟨bf F.o.symm,M ▸ (E.o.trans (Y.o.below A))⟩
open DskW
theorem ag5 (w:World) (a:Option Addr):Strs w a (([]:List (List UInt8)).map S):=λi A=>absurd A (by simp)
theorem ace:inI 0:=by unfold inI; omega
theorem alr {m:Msg} (h:uq m):uq { om with kind:=m.kind,ref:=m.ref,born:=m.born } :=
 ⟨h.kind,ace,ace,ace,h.ref,h.born,Nat.zero_le _,Nat.zero_le _,Nat.zero_le _,Nat.zero_le _,λt A=>by cases A⟩
theorem aqn {m:Msg} (h:uq m):uq { om with body:=m.body } :=
 ⟨ace,ace,ace,ace,ace,ace,Nat.zero_le _,Nat.zero_le _,h.body,Nat.zero_le _,λt A=>by cases A⟩
theorem right_any (m:Msg) (hm:uq m) (a:Option Addr) (c:Nat) (W:World) (hS:Strs W a (m.keys.map S)) :
 Calls Tryz.prog 73 #[.agg (af m a c)] W λe w'=>e=.returned (.bool (bq m))/\Below W.heap.size W w':=by
 have ad:Zq (Below W.heap.size W (W.alloc (.cells (af m a c) 71))):=(Below.refl _ W).alloc (Nat.le_refl _) _;have HX:Zq (Boxed (W.alloc (.cells (af m a c) 71)) W.heap.size (af m a c)):=Boxed.new W _ _;have a7:=zq (Strs.below hS ad.o);have HM:=zq hm
 have O:Zq (bq m=if gm m.due || gm m.ref || gm m.born then false
  else if m.kind=1 then bu m && decide (m.due=0) && decide (m.ref=0)
  else if m.kind=2\/m.kind=3 then bu m
  else if m.kind=4 then decide (m={ om with kind:=4,ref:=m.ref,born:=m.born })
  else if m.kind=0 then decide (m.body.length<=1024) && decide (m.body=noughts m.body.length) && decide (m={ om with body:=m.body })
  else false):=rfl
 have bw:=au;have bz:=S_toList;have b0:m.body.length<=1073741824:=hm.body;have a8:(af m a c).size=10:=rfl;clear hm hS;go_enter Tryz.func73,Tryz.ntmps73;go_upto_region 1 with fail
 generalize W.alloc (.cells (af m a c) 71)=w1 at *
 clear a8;obtain ⟨A,X⟩:∃ A,W.heap.size=A:=⟨_,rfl⟩;rw [X] at HX ad ⊢;have k2:w1.cell? ⟨A,2,none⟩=some (.int .i64 m.due):=HX.o 2 _ rfl;have k4:w1.cell? ⟨A,4,none⟩=some (.int .i64 m.ref):=HX.o 4 _ rfl;have k5:w1.cell? ⟨A,5,none⟩=some (.int .i64 m.born):=HX.o 5 _ rfl
 have HN:=zq (nums_any w1.heap.size [m.due,m.ref,m.born] (by simp) (by simp) (w1.alloc (.cells #[.int .i64 m.due,.int .i64 m.ref,.int .i64 m.born] 3)) (λj hj=>by
  rw [World.cell?_alloc_new]
  match j,hj with
  | 0,_=>rfl
  | 1,_=>rfl
  | 2,_=>rfl
  | j+3,hj=>exact absurd hj (by simp)))
 have bj:Zq (Below A W (w1.alloc (.cells #[.int .i64 m.due,.int .i64 m.ref,.int .i64 m.born] 3))):=ad.o.alloc (by have:=ad.o.size; omega) _;have an:[m.due,m.ref,m.born].any gm=(gm m.due || gm m.ref || gm m.born):=by simp [Bool.or_assoc]
 rw [an] at HN;change Zq (Calls _ _ #[.slice _ 3 3] _ _) at HN;generalize (gm m.due || gm m.ref || gm m.born)=bd at *
 clear an;go_wp2_with fail;refine HN.o.mono ?_;rintro e w2 ⟨rfl,hd⟩;have J:=zq (bj.o.trans (hd.below A));have I:Zq (Boxed w2 A (af m a c)):=(HX.o.below ((Below.refl _ _).alloc (Nat.le_refl _) _)).below (hd.below _);have ab:Zq (Strs w2 a (m.keys.map S)):=Strs.below (Strs.below a7.o ((Below.refl _ _).alloc (Nat.le_refl _) _)) (hd.below _);clear hd HN
 cases bd with
 | true =>
   have U:Zq (bq m=false):=by show _=_; rw [O.o]; rfl
   clear O;go_wp2_with fail;go_ret;exact ⟨bf (by rw [U.o]),X ▸ J.o⟩
 | false =>
   replace O:Zq (bq m=if m.kind=1 then bu m && decide (m.due=0) && decide (m.ref=0)
    else if m.kind=2\/m.kind=3 then bu m
    else if m.kind=4 then decide (m={ om with kind:=4,ref:=m.ref,born:=m.born })
    else if m.kind=0 then decide (m.body.length<=1024) && decide (m.body=noughts m.body.length) && decide (m={ om with body:=m.body })
    else false):=by show _=_; rw [O.o]; rfl
   obtain ⟨k0,k1,k2,k3,k4,k5,k6,k7,k8,k9⟩:=RecW.oz I.o
   by_cases h1:m.kind=1
   case pos =>
    have U:Zq (bq m=(bu m && decide (m.due=0) && decide (m.ref=0))):=by show _=_; rw [O.o,if_pos h1]
    have M:=aag m HM.o a c w2 ab.o;generalize bu m=ca at *
    change Calls _ _ #[.agg #[.int .i64 m.kind,.int .i64 m.queue,.int .i64 m.due,.int .i64 m.retry,.int .i64 m.ref,.int .i64 m.born,.string (S m.topic),.string (S m.tag),.string (S m.body),.slice a m.keys.length c]] _ _ at M;rw [h1] at M;have Z:=zq M;clear M;clear O;go_wp2_with fail;refine Z.o.mono ?_;rintro e w3 ⟨rfl,hb⟩;have N:=zq (J.o.trans (hb.mono (by have:=J.o.size; omega)));have k2:w3.cell? ⟨A,2,none⟩=some (.int .i64 m.due):=(I.o.below hb) 2 _ rfl;have k4:w3.cell? ⟨A,4,none⟩=some (.int .i64 m.ref):=(I.o.below hb) 4 _ rfl;clear hb Z k0 k1 k3 k5 k6 k7 k8 k9
    cases ca with
    | false =>
      go_wp2_with fail;go_ret;exact ⟨bf (by rw [U.o]; rfl),X ▸ N.o⟩
    | true =>
      by_cases hd:m.due=0
      . by_cases hr:m.ref=0
        . go_wp2_with fail
          go_ret;exact ⟨bf (by rw [U.o,decide_eq_true hd,decide_eq_true hr]; first | rfl | simp [hd,hr]),X ▸ N.o⟩
        . go_wp2_with fail
          go_ret;exact ⟨bf (by rw [U.o,decide_eq_true hd,decide_eq_false hr]; first | rfl | simp [hd,hr]),X ▸ N.o⟩
      . go_wp2_with fail
        go_ret;exact ⟨bf (by rw [U.o,decide_eq_false hd]; first | rfl | simp [hd]),X ▸ N.o⟩
   by_cases h2:m.kind=2
   case pos =>
    have U:Zq (bq m=bu m):=by show _=_; rw [O.o,if_neg h1,if_pos (.inl h2)]
    have M:=aag m HM.o a c w2 ab.o;generalize bu m=ca at *
    change Calls _ _ #[.agg #[.int .i64 m.kind,.int .i64 m.queue,.int .i64 m.due,.int .i64 m.retry,.int .i64 m.ref,.int .i64 m.born,.string (S m.topic),.string (S m.tag),.string (S m.body),.slice a m.keys.length c]] _ _ at M;rw [h2] at M;have Z:=zq M;clear M;clear O;go_wp2_with fail;refine Z.o.mono ?_;rintro e w3 ⟨rfl,hb⟩;have N:=zq (J.o.trans (hb.mono (by have:=J.o.size; omega)));go_wp2_with fail;go_ret;exact ⟨bf (by rw [U.o]),X ▸ N.o⟩
   by_cases h3:m.kind=3
   case pos =>
    have U:Zq (bq m=bu m):=by show _=_; rw [O.o,if_neg h1,if_pos (.inr h3)]
    have M:=aag m HM.o a c w2 ab.o;generalize bu m=ca at *
    change Calls _ _ #[.agg #[.int .i64 m.kind,.int .i64 m.queue,.int .i64 m.due,.int .i64 m.retry,.int .i64 m.ref,.int .i64 m.born,.string (S m.topic),.string (S m.tag),.string (S m.body),.slice a m.keys.length c]] _ _ at M;rw [h3] at M;have Z:=zq M;clear M;clear O;go_wp2_with fail;refine Z.o.mono ?_;rintro e w3 ⟨rfl,hb⟩;have N:=zq (J.o.trans (hb.mono (by have:=J.o.size; omega)));go_wp2_with fail;go_ret;exact ⟨bf (by rw [U.o]),X ▸ N.o⟩
   by_cases h4:m.kind=4
   case pos =>
    have U:Zq (bq m=decide (m={ om with kind:=m.kind,ref:=m.ref,born:=m.born })):=by show _=_; rw [O.o,if_neg h1,if_neg (by omega),if_pos h4,h4]
    have R:=ag4 m _ HM.o (alr HM.o) a none c 0 w2 ab.o (ag5 w2 none);generalize decide (m={ om with kind:=m.kind,ref:=m.ref,born:=m.born })=sm at *
    change Calls _ _ #[.agg #[.int .i64 m.kind,.int .i64 m.queue,.int .i64 m.due,.int .i64 m.retry,.int .i64 m.ref,.int .i64 m.born,.string (S m.topic),.string (S m.tag),.string (S m.body),.slice a m.keys.length c],.agg #[.int .i64 m.kind,.int .i64 0,.int .i64 0,.int .i64 0,.int .i64 m.ref,.int .i64 m.born,.string (S []),.string (S []),.string (S []),.slice none 0 0]] _ _ at R;rw [h4] at R;have ar:=zq R;clear R;clear O;go_wp2_with fail;refine ar.o.mono ?_;rintro e w3 ⟨rfl,hb⟩;have N:=zq (J.o.trans (hb.mono (by have:=J.o.size; omega)));go_wp2_with fail;go_ret;exact ⟨bf (by rw [U.o]),X ▸ N.o⟩
   by_cases h0:m.kind=0
   case neg =>
    have U:Zq (bq m=false):=by show _=_; rw [O.o,if_neg h1,if_neg (by omega),if_neg h4,if_neg h0]
    clear O;go_wp2_with fail;go_ret;exact ⟨bf (by rw [U.o]),X ▸ J.o⟩
   case pos =>
    replace O:Zq (bq m=(decide (m.body.length<=1024) && decide (m.body=noughts m.body.length) && decide (m={ om with body:=m.body }))):=by show _=_; rw [O.o,if_neg h1,if_neg (by omega),if_neg h4,if_pos h0]
    have R:=λ(w':World) (hb:Below w2.heap.size w2 w')=>ag4 m _ HM.o (aqn HM.o) a none c 0 w' (Strs.below ab.o hb) (ag5 w' none)
    by_cases hb:m.body.length<=1024
    ·
     have ak:(m.body.length:Int)<=1024:=by omega
     by_cases he:m.body=noughts m.body.length
     ·
      replace O:Zq (bq m=decide (m={ om with body:=m.body })):=by show _=_; rw [O.o,decide_eq_true hb,decide_eq_true he]; rfl
      generalize decide (m={ om with body:=m.body })=sm at *
      have al:=zq (λ(w':World)=>aae m.body.length (by omega) w');rw [<- he] at al;change ∀ w',_->Calls _ _ #[.agg #[.int .i64 m.kind,.int .i64 m.queue,.int .i64 m.due,.int .i64 m.retry,.int .i64 m.ref,.int .i64 m.born,.string (S m.topic),.string (S m.tag),.string (S m.body),.slice a m.keys.length c],.agg #[.int .i64 0,.int .i64 0,.int .i64 0,.int .i64 0,.int .i64 0,.int .i64 0,.string (S []),.string (S []),.string (S m.body),.slice none 0 0]] _ _ at R
      rw [h0] at R;have ar:=zq R;clear R he;go_wp2_with fail;refine Grow.jc 21 [none,some (.inl (.string (S m.body))),none,some (.inl (.bool true)),none,none,some (.inl (.string (S m.body))),none,some (.inl (.string (S m.body))),none,some (.inl (.string (S m.body))),some (.inl (.bool true)),none,none,some (.inl (.agg #[.int .i64 0,.int .i64 m.queue,.int .i64 m.due,.int .i64 m.retry,.int .i64 m.ref,.int .i64 m.born,.string (S m.topic),.string (S m.tag),.string (S m.body),.slice a m.keys.length c])),none,some (.inl (.string (S m.body))),none,some (.inl (.bool sm)),none,none] Ext (by kernel_rfl) (by kernel_rfl) (by kernel_rfl) Ext.refl (λ_ _ _=>Ext.trans) ?_ ?_
      . intro K hK Y hY v w w' hR h
        simp only [List.mem_cons,List.not_mem_nil,or_false] at hK
        rcases hK with rfl | rfl | rfl | rfl | rfl | rfl | rfl | rfl | rfl | rfl | rfl | rfl | rfl | rfl | rfl | rfl | rfl | rfl | rfl | rfl | rfl <;> simp only [reduceCtorEq,Option.some.injEq,Sum.inr.injEq] at hY
      simp only [List.take_succ_cons,List.take_zero,List.drop_succ_cons,List.drop_zero];refine Grow.g_det rfl ?_;apply Exists.intro;refine ⟨λw F E=>?_,?_⟩
      . clear E
        go_simp;exact ⟨rfl,Ext.refl _⟩
      go_frame;refine Grow.g_con rfl (λB F E=>?_) ?_
      . clear E
        have k8:B.cell? ⟨A,8,none⟩=some (.string (S m.body)):=(I.o.below ((Below.refl w2.heap.size w2).drew.trans F)) 8 _ rfl;go_simp
        all_goals exact Ext.refl _
      go_frame;refine Grow.g_det rfl ?_;apply Exists.intro;refine ⟨λw F E=>?_,?_⟩
      . clear E
        go_simp;exact ⟨rfl,Ext.refl _⟩
      go_frame;refine Grow.g_con rfl (λB F E=>?_) ?_
      . clear E
        go_simp
        all_goals first | exact Ext.refl _ | exact ak | omega
      iterate 2
       go_frame;refine Grow.g_det rfl ?_;apply Exists.intro;refine ⟨λw F E=>?_,?_⟩
       . clear E
         go_simp;exact ⟨rfl,Ext.refl _⟩
      iterate 2
       go_frame;refine Grow.g_con rfl (λB F E=>?_) ?_
       . clear E
         have k8:B.cell? ⟨A,8,none⟩=some (.string (S m.body)):=(I.o.below ((Below.refl w2.heap.size w2).drew.trans F)) 8 _ rfl;go_simp
         all_goals exact Ext.refl _
       go_frame;refine Grow.g_det rfl ?_;apply Exists.intro;refine ⟨λw F E=>?_,?_⟩
       . clear E
         go_simp;exact ⟨rfl,Ext.refl _⟩
      go_frame;refine Grow.g_con rfl (λB F E=>?_) ?_
      . clear E
        go_simp;exact (al.o B).mono λe w3 h=>⟨_,h.1,rfl,h.2⟩
      go_frame;refine Grow.g_con rfl (λB F E=>?_) ?_
      . clear E
        go_simp
        all_goals first | exact Ext.refl _ | exact am | (simpa using am)
      iterate 2
       go_frame;refine Grow.g_det rfl ?_;apply Exists.intro;refine ⟨λw F E=>?_,?_⟩
       . clear E
         go_simp;exact ⟨rfl,Ext.refl _⟩
      go_frame;refine Grow.g_con rfl (λB F E=>?_) ?_
      ·
       clear E;have k0:B.cell? ⟨A,0,none⟩=some (.int .i64 0):=(h0 ▸ (show B.cell? ⟨A,0,none⟩=some (.int .i64 m.kind) from (I.o.below ((Below.refl w2.heap.size w2).drew.trans F)) 0 _ rfl));have k1:B.cell? ⟨A,1,none⟩=some (.int .i64 m.queue):=(I.o.below ((Below.refl w2.heap.size w2).drew.trans F)) 1 _ rfl;have k2:B.cell? ⟨A,2,none⟩=some (.int .i64 m.due):=(I.o.below ((Below.refl w2.heap.size w2).drew.trans F)) 2 _ rfl;have k3:B.cell? ⟨A,3,none⟩=some (.int .i64 m.retry):=(I.o.below ((Below.refl w2.heap.size w2).drew.trans F)) 3 _ rfl;have k4:B.cell? ⟨A,4,none⟩=some (.int .i64 m.ref):=(I.o.below ((Below.refl w2.heap.size w2).drew.trans F)) 4 _ rfl;have k5:B.cell? ⟨A,5,none⟩=some (.int .i64 m.born):=(I.o.below ((Below.refl w2.heap.size w2).drew.trans F)) 5 _ rfl;have k6:B.cell? ⟨A,6,none⟩=some (.string (S m.topic)):=(I.o.below ((Below.refl w2.heap.size w2).drew.trans F)) 6 _ rfl;have k7:B.cell? ⟨A,7,none⟩=some (.string (S m.tag)):=(I.o.below ((Below.refl w2.heap.size w2).drew.trans F)) 7 _ rfl;have k8:B.cell? ⟨A,8,none⟩=some (.string (S m.body)):=(I.o.below ((Below.refl w2.heap.size w2).drew.trans F)) 8 _ rfl;have k9:B.cell? ⟨A,9,none⟩=some (.slice a m.keys.length c):=(I.o.below ((Below.refl w2.heap.size w2).drew.trans F)) 9 _ rfl;go_simp
       all_goals exact Ext.refl _
      go_frame;refine Grow.g_det rfl ?_;apply Exists.intro;refine ⟨λw F E=>?_,?_⟩
      . clear E
        go_simp;exact ⟨rfl,Ext.refl _⟩
      go_frame;refine Grow.g_con rfl (λB F E=>?_) ?_
      . clear E
        have k8:B.cell? ⟨A,8,none⟩=some (.string (S m.body)):=(I.o.below ((Below.refl w2.heap.size w2).drew.trans F)) 8 _ rfl;go_simp
        all_goals exact Ext.refl _
      go_frame;refine Grow.g_det rfl ?_;apply Exists.intro;refine ⟨λw F E=>?_,?_⟩
      . clear E
        go_simp;exact ⟨rfl,Ext.refl _⟩
      go_frame;refine Grow.g_con rfl (λB F E=>?_) ?_
      . clear E
        go_simp;exact (ar.o B ((Below.refl w2.heap.size w2).drew.trans F)).mono λe w3 h=>⟨_,h.1,rfl,h.2⟩
      iterate 2
       go_frame;refine Grow.g_det rfl ?_;apply Exists.intro;refine ⟨λw F E=>?_,?_⟩
       . clear E
         go_simp;exact ⟨rfl,Ext.refl _⟩
      go_frame;refine Grow.g_nil λw3 ac E=>?_
      clear E;refine wpList_nil ?_;have N:=zq (J.o.trans (((Below.refl w2.heap.size w2).drew.trans ac).mono (by have:=J.o.size; omega)));clear ac;go_wp2_with fail;go_ret;exact ⟨bf (by rw [O.o]),X ▸ N.o⟩
     ·
      have U:Zq (bq m=false):=by show _=_; rw [O.o,decide_eq_true hb,decide_eq_false he]; rfl
      clear O R;have al:=zq (λ(w':World)=>aae m.body.length (by omega) w');generalize hnn:noughts m.body.length=nn at *
      have am:¬ m.body=nn:=he;clear he hnn;go_wp2_with fail;refine Grow.jc 21 [none,some (.inl (.string (S m.body))),none,some (.inl (.bool true)),none,none,some (.inl (.string (S m.body))),none,some (.inl (.string (S m.body))),none,some (.inl (.string (S nn))),some (.inl (.bool false)),none,none,none,none,none,none,none,none,none] Ext (by kernel_rfl) (by kernel_rfl) (by kernel_rfl) Ext.refl (λ_ _ _=>Ext.trans) ?_ ?_
      . intro K hK Y hY v w w' hR h
        simp only [List.mem_cons,List.not_mem_nil,or_false] at hK
        rcases hK with rfl | rfl | rfl | rfl | rfl | rfl | rfl | rfl | rfl | rfl | rfl | rfl | rfl | rfl | rfl | rfl | rfl | rfl | rfl | rfl | rfl <;> simp only [reduceCtorEq,Option.some.injEq,Sum.inr.injEq] at hY
      simp only [List.take_succ_cons,List.take_zero,List.drop_succ_cons,List.drop_zero];refine Grow.g_det rfl ?_;apply Exists.intro;refine ⟨λw F E=>?_,?_⟩
      . clear E
        go_simp;exact ⟨rfl,Ext.refl _⟩
      go_frame;refine Grow.g_con rfl (λB F E=>?_) ?_
      . clear E
        have k8:B.cell? ⟨A,8,none⟩=some (.string (S m.body)):=(I.o.below ((Below.refl w2.heap.size w2).drew.trans F)) 8 _ rfl;go_simp
        all_goals exact Ext.refl _
      go_frame;refine Grow.g_det rfl ?_;apply Exists.intro;refine ⟨λw F E=>?_,?_⟩
      . clear E
        go_simp;exact ⟨rfl,Ext.refl _⟩
      go_frame;refine Grow.g_con rfl (λB F E=>?_) ?_
      . clear E
        go_simp
        all_goals first | exact Ext.refl _ | exact ak | omega
      iterate 2
       go_frame;refine Grow.g_det rfl ?_;apply Exists.intro;refine ⟨λw F E=>?_,?_⟩
       . clear E
         go_simp;exact ⟨rfl,Ext.refl _⟩
      iterate 2
       go_frame;refine Grow.g_con rfl (λB F E=>?_) ?_
       . clear E
         have k8:B.cell? ⟨A,8,none⟩=some (.string (S m.body)):=(I.o.below ((Below.refl w2.heap.size w2).drew.trans F)) 8 _ rfl;go_simp
         all_goals exact Ext.refl _
       go_frame;refine Grow.g_det rfl ?_;apply Exists.intro;refine ⟨λw F E=>?_,?_⟩
       . clear E
         go_simp;exact ⟨rfl,Ext.refl _⟩
      go_frame;refine Grow.g_con rfl (λB F E=>?_) ?_
      . clear E
        go_simp;exact (al.o B).mono λe w3 h=>⟨_,h.1,rfl,h.2⟩
      go_frame;refine Grow.g_con rfl (λB F E=>?_) ?_
      . clear E
        go_simp
        all_goals first | exact Ext.refl _ | exact am | (simpa using am)
      go_frame
      iterate 9
       first
       | refine Grow.g_skip rfl ?_
       | refine Grow.g_det rfl ?_
         apply Exists.intro;refine ⟨λw F E=>?_,?_⟩
         . clear E
           go_simp;exact ⟨rfl,Ext.refl _⟩
       go_frame
      refine Grow.g_nil λw3 ac E=>?_
      clear E;refine wpList_nil ?_;have N:=zq (J.o.trans (((Below.refl w2.heap.size w2).drew.trans ac).mono (by have:=J.o.size; omega)));clear ac;go_wp2_with fail;go_ret;exact ⟨bf (by rw [U.o]),X ▸ N.o⟩
    ·
     have U:Zq (bq m=false):=by show _=_; rw [O.o,decide_eq_false hb]; rfl
     have ak:¬ (m.body.length:Int)<=1024:=by omega
     have b2:decide ((m.body.length:Int)<=1024)=false:=decide_eq_false ak;have bs:decide (m.body.length<=1024)=false:=decide_eq_false hb;clear O R;go_wp2_with fail;go_quiet (fail);go_wp2_with fail;go_ret;exact ⟨bf (by rw [U.o]),X ▸ (J.o.trans (((Drawn.refl w2).drewN nq).below A))⟩
open Go.RowKit OctMath RecMath NameMath
open OctW (gy cz ll ui)
theorem arw (n:Nat) (h1:1<=n) (h7:n<=7) (a b c:Int) (ha:OctW.fits n a) (hb:OctW.fits n b) (hc:OctW.fits n c):OctW.ol (n:Int) [a,b,c]=(be n a.toNat++(be n b.toNat++be n c.toNat),0):=by
 rw [abu n _ h1 h7 (λx A=>by
  simp only [List.mem_cons,List.not_mem_nil,or_false] at A
  rcases A with rfl | rfl | rfl <;> assumption)]
 simp [OctW.numsL]
theorem afk (ts:List (List UInt8)) (n:Nat) (h:∀ t∈ts,t.length<=n):(cz ts).length<=ts.length * (n+2):=by
 induction ts with
 | nil=>unfold cz; simp
 | cons t ts ih =>
   rw [OctW.zy,List.length_append,OctW.jh,List.length_cons,Nat.add_mul,Nat.one_mul];have:=h t (.head _);have:=ih λt A=>h t (.tail _ A)
   omega
theorem ai9 (m:Msg) (hm:bq m=true) (hk0:m.kind≠0) (a:Option Addr) (c:Nat) (W:World) (hS:Strs W a (m.keys.map S)) :
 Calls Tryz.prog 241 #[.agg (af m a c)] W λe w'=>e=.returned (.string (S (ax m)))/\Below W.heap.size W w':=by
 obtain ⟨⟨d1,d2⟩,⟨r1,r2⟩,⟨b1,b2⟩,⟨k1,k2⟩,⟨q1,q2⟩,⟨t1,t2⟩,l1,l2,l3,l4,l5⟩:=qy hm hk0;have E:Zq (Below W.heap.size W (W.alloc (.cells (af m a c) 71))):=(Below.refl _ W).alloc (Nat.le_refl _) _;have X:Zq (Boxed (W.alloc (.cells (af m a c) 71)) W.heap.size (af m a c)):=Boxed.new W _ _;have al:=zq (Strs.below hS E.o);have n1:OctW.ol 1 [m.kind,m.queue,m.retry]=(be 1 m.kind.toNat++(be 1 m.queue.toNat++be 1 m.retry.toNat),0):=arw 1 (by omega) (by omega) _ _ _ ⟨by omega,by show m.kind < ((256 ^ 1:Nat):Int); omega⟩ ⟨by omega,by show m.queue < ((256 ^ 1:Nat):Int); omega⟩ ⟨by omega,by show m.retry < ((256 ^ 1:Nat):Int); omega⟩;have n6:OctW.ol 6 [m.born,m.due,m.ref]=(be 6 m.born.toNat++(be 6 m.due.toNat++be 6 m.ref.toNat),0):=arw 6 (by omega) (by omega) _ _ _ ⟨by omega,by show m.born < ((256 ^ 6:Nat):Int); omega⟩ ⟨by omega,by show m.due < ((256 ^ 6:Nat):Int); omega⟩ ⟨by omega,by show m.ref < ((256 ^ 6:Nat):Int); omega⟩
 have O:∀ t∈[m.topic,m.tag,m.body],t.length<=200:=by
  intro t U;simp only [List.mem_cons,List.not_mem_nil,or_false] at U
  rcases U with rfl | rfl | rfl <;> omega
 have x3:ll [m.topic,m.tag,m.body]=(gy m.topic++(gy m.tag++gy m.body),0):=by
  unfold OctW.ll;rw [if_pos (λt U=>by have:=O t U; omega)];simp [cz]
 have Y:(cz [m.topic,m.tag,m.body]).length<=1073741824:=by have:=afk _ 200 O; simp at this; omega
 have xk:ui m.keys=(be 1 m.keys.length++cz m.keys,0):=by
  unfold OctW.ui;rw [if_neg (by omega),if_pos (λt U=>by have:=l5 t U; omega)]
 have am:(cz m.keys).length<=54:=by
  have:=afk _ 16 l5;have:m.keys.length * (16+2)<=3 * 18:=Nat.mul_le_mul_right _ l4;omega
 have an:Zq (S (be 1 m.kind.toNat++(be 1 m.queue.toNat++be 1 m.retry.toNat))++S (be 6 m.born.toNat++(be 6 m.due.toNat++be 6 m.ref.toNat))++S (gy m.topic++(gy m.tag++gy m.body))++S (be 1 m.keys.length++cz m.keys)=S (ax m)):=by
  show _=_;rw [gu,gu,gu];unfold ax;simp only [List.append_assoc]
 have z1:(S (be 1 m.kind.toNat++(be 1 m.queue.toNat++be 1 m.retry.toNat))).size<=1000:=by rw [au]; simp [bn]
 have z2:(S (be 6 m.born.toNat++(be 6 m.due.toNat++be 6 m.ref.toNat))).size<=1000:=by rw [au]; simp [bn]
 have z3:(S (gy m.topic++(gy m.tag++gy m.body))).size<=1000:=by rw [au]; simp [OctW.jh]; omega
 have z4:(S (be 1 m.keys.length++cz m.keys)).size<=1000:=by rw [au]; simp [bn]; omega
 have F:=zq (λ(w:World)=>OctW.nums_any 1 (by omega) (by omega) (some ⟨w.heap.size,0,none⟩) 3 [m.kind,m.queue,m.retry] (by simp) (λx hx=>by simp at hx; omega) _ (aaf w [m.kind,m.queue,m.retry] 3));have I:=zq (λ(w:World)=>OctW.nums_any 6 (by omega) (by omega) (some ⟨w.heap.size,0,none⟩) 3 [m.born,m.due,m.ref] (by simp) (λx hx=>by simp at hx; omega) _ (aaf w [m.born,m.due,m.ref] 3));have J:=zq (λ(w:World)=>OctW.ab9 (some ⟨w.heap.size,0,none⟩) 3 [m.topic,m.tag,m.body] (by simp) Y _ (ag2 w [S m.topic,S m.tag,S m.body] 9));have R:=zq (λ(w:World) (h:Strs w a (m.keys.map S))=>OctW.ak1 a c m.keys (by omega) (by omega) w h);rw [n1] at F;rw [n6] at I;rw [x3] at J;rw [xk] at R;change Zq (∀ w:World,Calls _ _ #[.int .i64 1,.slice (some ⟨w.heap.size,0,none⟩) 3 3] (w.alloc (.cells #[.int .i64 m.kind,.int .i64 m.queue,.int .i64 m.retry] _)) _) at F;change Zq (∀ w:World,Calls _ _ #[.int .i64 6,.slice (some ⟨w.heap.size,0,none⟩) 3 3] (w.alloc (.cells #[.int .i64 m.born,.int .i64 m.due,.int .i64 m.ref] _)) _) at I;change Zq (∀ w:World,Calls _ _ #[.slice (some ⟨w.heap.size,0,none⟩) 3 3] (w.alloc (.cells #[.string (S m.topic),.string (S m.tag),.string (S m.body)] _)) _) at J;generalize S (be 1 m.kind.toNat++(be 1 m.queue.toNat++be 1 m.retry.toNat))=s1 at *
 generalize S (be 6 m.born.toNat++(be 6 m.due.toNat++be 6 m.ref.toNat))=s2 at *
 generalize S (gy m.topic++(gy m.tag++gy m.body))=s3 at *
 generalize S (be 1 m.keys.length++cz m.keys)=s4 at *
 have ap:(af m a c).size=10:=rfl;clear hm hk0 hS d1 d2 r1 r2 b1 b2 k1 k2 q1 q2 t1 t2 l1 l2 l3 l4 l5 n1 n6 O x3 Y xk am;go_enter Tryz.func241,Tryz.ntmps241;go_upto_region 1 with fail
 generalize W.alloc (.cells (af m a c) 71)=w1 at *
 clear ap;obtain ⟨A,hA⟩:∃ A,W.heap.size=A:=⟨_,rfl⟩;rw [hA] at X E ⊢;have k0:w1.cell? ⟨A,0,none⟩=some (.int .i64 m.kind):=X.o 0 _ rfl;have k1:w1.cell? ⟨A,1,none⟩=some (.int .i64 m.queue):=X.o 1 _ rfl;have k3:w1.cell? ⟨A,3,none⟩=some (.int .i64 m.retry):=X.o 3 _ rfl;go_wp2_with fail;refine (F.o w1).mono ?_;rintro e w2 ⟨rfl,hb⟩;have B:Below w1.heap.size w1 w2:=((Below.refl _ _).alloc (Nat.le_refl _) _).trans (hb.mono (by rw [World.size_alloc]; omega));have Z:=zq (E.o.trans (B.mono (by have:=E.o.size; omega)));have M:=zq (X.o.below B);have ar:=zq (Strs.below al.o B);clear hb B F k0 k1 k3;have k5:w2.cell? ⟨A,5,none⟩=some (.int .i64 m.born):=M.o 5 _ rfl;have k2:w2.cell? ⟨A,2,none⟩=some (.int .i64 m.due):=M.o 2 _ rfl;have k4:w2.cell? ⟨A,4,none⟩=some (.int .i64 m.ref):=M.o 4 _ rfl;go_wp2_with fail;refine (I.o w2).mono ?_;rintro e w3 ⟨rfl,hb⟩;have B:Below w2.heap.size w2 w3:=((Below.refl _ _).alloc (Nat.le_refl _) _).trans (hb.mono (by rw [World.size_alloc]; omega));have ab:=zq (Z.o.trans (B.mono (by have:=Z.o.size; omega)));have N:=zq (M.o.below B);have av:=zq (Strs.below ar.o B);clear hb B I k5 k2 k4;have k6:w3.cell? ⟨A,6,none⟩=some (.string (S m.topic)):=N.o 6 _ rfl;have k7:w3.cell? ⟨A,7,none⟩=some (.string (S m.tag)):=N.o 7 _ rfl;have k8:w3.cell? ⟨A,8,none⟩=some (.string (S m.body)):=N.o 8 _ rfl;go_wp2_with fail;refine (J.o w3).mono ?_;rintro e w4 ⟨rfl,hb⟩;have B:Below w3.heap.size w3 w4:=((Below.refl _ _).alloc (Nat.le_refl _) _).trans (hb.mono (by rw [World.size_alloc]; omega));have ac:=zq (ab.o.trans (B.mono (by have:=ab.o.size; omega)));have a1:=zq (N.o.below B);have a6:=zq (Strs.below av.o B);clear hb B J k6 k7 k8;have k9:w4.cell? ⟨A,9,none⟩=some (.slice a m.keys.length c):=a1.o 9 _ rfl;go_wp2_with fail;refine (R.o w4 a6.o).mono ?_;rintro e w5 ⟨rfl,hb⟩;have a7:=zq (ac.o.trans (hb.mono (by have:=ac.o.size; omega)));clear hb R k9;go_wp2_with fail;go_ret;exact ⟨by rw [<- an.o]; rfl,hA ▸ a7.o⟩
end RecW
namespace CrcW
open Go.RowKit CrcMath
theorem ag6 (x:BitVec 32):0<=(x.toNat:Int)/\(x.toNat:Int) < 4294967296:=by have:=x.isLt; omega
theorem akh (x y:BitVec 32):bits .and .u32 (x.toNat:Int) (y.toNat:Int)=((x &&& y).toNat:Int):=by
 rw [u32_and_nat _ _ x.isLt y.isLt,BitVec.toNat_and]
theorem aja (x y:BitVec 32):bits .or .u32 (x.toNat:Int) (y.toNat:Int)=((x ||| y).toNat:Int):=by
 rw [u32_or_nat _ _ x.isLt y.isLt,BitVec.toNat_or]
theorem wu (x y:BitVec 32):bits .xor .u32 (x.toNat:Int) (y.toNat:Int)=((x ^^^ y).toNat:Int):=by
 rw [u32_xor_nat _ _ x.isLt y.isLt,BitVec.toNat_xor]
theorem asg (x y:BitVec 8):bits .xor .u8 (x.toNat:Int) (y.toNat:Int)=((x ^^^ y).toNat:Int):=by
 rw [u8_xor_nat _ _ x.isLt y.isLt,BitVec.toNat_xor]
theorem half (x:BitVec 32):(x.toNat:Int) / (2:Int)=((x >>> 1).toNat:Int):=by simp [BitVec.toNat_ushiftRight,Nat.shiftRight_eq_div_pow]
theorem ata (x:BitVec 32):(x.toNat:Int) / (256:Int)=((x >>> 8).toNat:Int):=by simp [BitVec.toNat_ushiftRight,Nat.shiftRight_eq_div_pow]
theorem att (x:BitVec 32):(x.toNat:Int) % (256:Int)=((x.setWidth 8).toNat:Int):=by simp
theorem and_one (x:BitVec 32):(bits .and .u32 (x.toNat:Int) 1 == 1)=x.getLsbD 0:=by
 have h:=akh x 1#32;simp only [BitVec.toNat_ofNat] at h;rw [show ((1 % 2 ^ 32:Nat):Int)=1 from rfl] at h;rw [h,BitVec.toNat_and];simp only [BitVec.toNat_ofNat];rw [show 1 % 2 ^ 32=1 from rfl,Nat.and_one_is_mod];rw [BitVec.getLsbD,Nat.testBit_zero]
 cases Nat.mod_two_eq_zero_or_one x.toNat with
 | inl e=>rw [e]; rfl
 | inr e=>rw [e]; rfl
theorem an7 (x:BitVec 32) (h:(bits .and .u32 (x.toNat:Int) 1 == 1)=true):bits .xor .u32 ((x.toNat:Int) / (2:Int)) 3988292384=((zk x).toNat:Int):=by
 rw [and_one] at h;unfold zk; rw [if_pos h,half];exact wu (x >>> 1) poly
theorem ag7 (x:BitVec 32) (h:(bits .and .u32 (x.toNat:Int) 1 == 1)=false):(x.toNat:Int) / (2:Int)=((zk x).toNat:Int):=by
 rw [and_one] at h;unfold zk; rw [h,half,if_neg (by simp)]
theorem als (b:BitVec 32) (w:World) :
 Calls Tryz.prog 178 #[.int .u32 b.toNat] w λe w'=>e=.returned (.int .u32 (steps 8 b).toNat)/\w=w':=by
 go_enter Tryz.func178,Tryz.ntmps178;go_wp2;go_loop [0,4] (λv i=>∃ k:Nat,k<=8/\i=.int .i64 k/\v=.int .u32 (steps k b).toNat) (λ_ i=>8 - (intOf i).toNat)
 case atStart=>exact ⟨0,by omega,rfl,rfl⟩
 case round =>
  obtain ⟨k,hk,rfl,rfl⟩:=hrel;have A:=ag6 (steps k b)
  by_cases hlt:k < 8
  ·
   go_wp2
   . go_round
     case rel=>exact ⟨k+1,by omega,by go_num,by rw [acr,an7 _ (by assumption)]⟩
     case measure=>simp [intOf]; omega
   . go_round
     case rel=>exact ⟨k+1,by omega,by go_num,by rw [acr,ag7 _ (by assumption)]⟩
     case measure=>simp [intOf]; omega
  . go_wp2
    go_ret;exact ⟨by simp [show k=8 by omega],rfl⟩
def Tabs (w:World) (B:Nat):Prop:=∀ k j,k < 4->j < 256->w.cell? ⟨B,256 * k+j,none⟩=some (.int .u32 (tab k (BitVec.ofNat 8 j)).toNat)
theorem Tabs.at {w:World} {B:Nat} (h:Tabs w B) (k:Nat) (hk:k < 4) (x:BitVec 8):w.cell? ⟨B,256 * k+x.toNat,none⟩=some (.int .u32 (tab k x).toNat):=by
 have:=h k x.toNat hk x.isLt
 rwa [BitVec.ofNat_toNat,BitVec.setWidth_eq] at this
theorem aqo (B:Nat) (x:BitVec 32) (c:UInt8) (w:World) (hT:Tabs w B) :
 Calls Tryz.prog 237 #[.pointer (some ⟨B,0,none⟩),.int .u32 x.toNat,.int .u8 c.toNat] w λe w'=>e=.returned (.int .u32 (upd x c.toBitVec).toNat)/\w=w':=by
 have E:=ag6 x
 have F:bits .xor .u8 ((x.toNat:Int) % (256:Int)) (c.toNat:Int)=(((x.setWidth 8 ^^^ c.toBitVec).toNat:Nat):Int):=by
  rw [att]; exact asg _ _
 have hc:=hT.at 0 (by omega) (x.setWidth 8 ^^^ c.toBitVec);have A:=ar6 x c.toBitVec;generalize x.setWidth 8 ^^^ c.toBitVec=i at *
 have I:(i.toNat:Int) < 256:=by have:=i.isLt; omega
 simp only [Nat.mul_zero,Nat.zero_add] at hc;have E2:=zq A; clear A;have J:=zq hT; clear hT;go_enter Tryz.func237,Tryz.ntmps237;go_wp2;go_ret;exact ⟨yh (by rw [E2.o,ata,wu]),rfl⟩
theorem aki (b:UInt8):(b.toNat:Int) % 4294967296=((ext b.toBitVec).toNat:Int):=by
 have:=b.toNat_lt;simp [ext]; omega
theorem af7 (b:UInt8) (n:Nat):(b.toNat:Int) % 4294967296 * ((2 ^ n:Nat):Int) % 4294967296=((ext b.toBitVec <<< n).toNat:Int):=by
 rw [aki,BitVec.toNat_shiftLeft,Nat.shiftLeft_eq];simp
theorem an8 (x:BitVec 32) (a b c d:UInt8) :
 bits .xor .u32 (x.toNat:Int) (bits .or .u32 (bits .or .u32 (bits .or .u32 ((a.toNat:Int) % 4294967296) ((b.toNat:Int) % 4294967296 * 256 % 4294967296)) ((c.toNat:Int) % 4294967296 * 65536 % 4294967296)) ((d.toNat:Int) % 4294967296 * 16777216 % 4294967296))=((x ^^^ zz a.toBitVec b.toBitVec c.toBitVec d.toBitVec).toNat:Int):=by
 have h1:(b.toNat:Int) % 4294967296 * 256 % 4294967296=_:=af7 b 8;have A:(c.toNat:Int) % 4294967296 * 65536 % 4294967296=_:=af7 c 16;have B:(d.toNat:Int) % 4294967296 * 16777216 % 4294967296=_:=af7 d 24;rw [aki,h1,A,B,aja,aja,aja,wu]; rfl
theorem af8 (y:BitVec 32):bits .and .u32 (y.toNat:Int) 255=((y.setWidth 8).toNat:Int):=by
 have h:=akh y 255#32;simp only [BitVec.toNat_ofNat] at h;rw [show ((255 % 2 ^ 32:Nat):Int)=255 from rfl] at h;rw [h,BitVec.toNat_and];simp only [BitVec.toNat_ofNat,BitVec.toNat_setWidth];rw [show 255 % 2 ^ 32=2 ^ 8 - 1 from rfl,Nat.and_two_pow_sub_one_eq_mod]
theorem af9 (y:BitVec 32) (n:Nat):(y.toNat:Int) / ((2 ^ n:Nat):Int)=((y >>> n).toNat:Int):=by
 rw [BitVec.toNat_ushiftRight,Nat.shiftRight_eq_div_pow]; rfl
theorem atu (y:BitVec 32):((y >>> 24).toNat:Int)=(((y >>> 24).setWidth 8).toNat:Int):=by
 have:=y.isLt;simp [BitVec.toNat_ushiftRight,Nat.shiftRight_eq_div_pow]; omega
theorem arx (s:ByteArray) (h:4<=s.size):s.data.toList.take 4=[s[0]'(by omega),s[1]'(by omega),s[2]'(by omega),s[3]'(by omega)]:=by
 obtain ⟨⟨l⟩⟩:=s
 match l,h with
 | a :: b :: c :: d :: l,_=>rfl
theorem an9 (B:Nat) (x:BitVec 32) (s:ByteArray) (h4:4<=s.size) (w:World) (hT:Tabs w B) :
 Calls Tryz.prog 236 #[.pointer (some ⟨B,0,none⟩),.int .u32 x.toNat,.string s] w λe w'=>e=.returned (.int .u32 (reg x (s.data.toList.take 4)).toNat)/\Drawn w w':=by
 have E:=an8 x (s[0]'(by omega)) (s[1]'(by omega)) (s[2]'(by omega)) (s[3]'(by omega));have A:Zq (reg x (s.data.toList.take 4)=_):=(congrArg (reg x) (arx s h4)).trans (ap9 x (s[0]'(by omega)).toBitVec (s[1]'(by omega)).toBitVec (s[2]'(by omega)).toBitVec (s[3]'(by omega)).toBitVec);generalize x ^^^ zz (s[0]'(by omega)).toBitVec (s[1]'(by omega)).toBitVec (s[2]'(by omega)).toBitVec (s[3]'(by omega)).toBitVec=y at E A;have F:=ag6 x;have I:=ag6 y;have i3:=af8 y;have s2:(y.toNat:Int) / (256:Int)=_:=af9 y 8;have s1:(y.toNat:Int) / (65536:Int)=_:=af9 y 16;have s0:(y.toNat:Int) / (16777216:Int)=_:=af9 y 24;have i2:bits .and .u32 ((y.toNat:Int) / (256:Int)) 255=(((y >>> 8).setWidth 8).toNat:Int):=by rw [s2]; exact af8 (y >>> 8)
 have J:bits .and .u32 ((y.toNat:Int) / (65536:Int)) 255=(((y >>> 16).setWidth 8).toNat:Int):=by rw [s1]; exact af8 (y >>> 16)
 have i0:(y.toNat:Int) / (16777216:Int)=(((y >>> 24).setWidth 8).toNat:Int):=by rw [s0]; exact atu y
 clear s0 s1 s2;have c3:=hT.at 3 (by omega) (y.setWidth 8);have c2:=hT.at 2 (by omega) ((y >>> 8).setWidth 8);have c1:=hT.at 1 (by omega) ((y >>> 16).setWidth 8);have c0:=hT.at 0 (by omega) ((y >>> 24).setWidth 8);generalize y.setWidth 8=a3 at *
 generalize (y >>> 8).setWidth 8=a2 at *
 generalize (y >>> 16).setWidth 8=a1 at *
 generalize (y >>> 24).setWidth 8=a0 at *
 simp only [Nat.reduceMul,Nat.zero_add] at c0 c1 c2 c3;have M:(a3.toNat:Int) < 256:=by have:=a3.isLt; omega
 have N:(a2.toNat:Int) < 256:=by have:=a2.isLt; omega
 have O:(a1.toNat:Int) < 256:=by have:=a1.isLt; omega
 have b0:(a0.toNat:Int) < 256:=by have:=a0.isLt; omega
 have h0:0 < s.size:=by omega
 have h1:(1:Int) < (s.size:Int):=by omega
 have R:(2:Int) < (s.size:Int):=by omega
 have U:(3:Int) < (s.size:Int):=by omega
 have X:=zq hT; clear hT;go_enter Tryz.func236,Tryz.ntmps236;go_wp2_with fail;go_quiet (fail);go_wp2_with fail;go_quiet (fail);go_wp2_with fail;go_ret;exact ⟨yh (by rw [A.o,wu,wu,wu]),_,World.drewN_drewN ..⟩
def noughts:Array Value:=Array.replicate 1024 (.int .u32 0)
theorem ajb (i:Nat) (h:i < 1024):noughts[i]?=some (.int .u32 0):=by
 unfold noughts; rw [Array.getElem?_replicate]; simp [h]
theorem ag8 (w:World):(zeroValue 267).run Tryz.prog w=.ok (.agg noughts) w:=by kernel_rfl
def TE (i:Nat):Int:=((tab (i / 256) (BitVec.ofNat 8 i)).toNat:Int)
theorem ajc (k:Nat) (h:k < 256) (w:World) :
 Calls Tryz.prog 178 #[.int .u32 (k:Int)] w λe w'=>e=.returned (.int .u32 (TE k))/\w=w':=by
 have h1:=als (BitVec.ofNat 32 k) w;rw [BitVec.toNat_ofNat,Nat.mod_eq_of_lt (by omega)] at h1
 have A:steps 8 (BitVec.ofNat 32 k)=tab (k / 256) (BitVec.ofNat 8 k):=by
  rw [Nat.div_eq_of_lt h];unfold tab ext;congr 1;apply BitVec.eq_of_toNat_eq;simp; omega
 rw [A] at h1;exact h1
structure Laid (B n:Nat) (W w:World):Prop where
 below:Below W.heap.size W w
 old:W.heap.size<=B
 size:B < w.heap.size
 there:∀ i,i < 1024->∃ v,w.cell? ⟨B,i,none⟩=some v
 free:∀ i,w.frozen? ⟨B,i,none⟩=false
 has:∀ i,i < n->w.cell? ⟨B,i,none⟩=some (.int .u32 (TE i))
theorem Laid.drew {B n:Nat} {W w:World} (h:Laid B n W w) (m:Nat):Laid B n W (w.drewN m) :=
 ⟨h.below.trans (Drawn.below (⟨m,rfl⟩:Drawn w (w.drewN m)) _),h.old,h.size,h.there,h.free,h.has⟩
theorem Laid.set {B n:Nat} {W w:World} (h:Laid B n W w) (hn:n < 1024):Laid B (n+1) W (w.setCell ⟨B,n,none⟩ (.int .u32 (TE n))):=by
 obtain ⟨v,E⟩:=h.there n hn
 have key:∀ i,(w.setCell ⟨B,n,none⟩ (.int .u32 (TE n))).cell? ⟨B,i,none⟩=if i=n then some (.int .u32 (TE n)) else w.cell? ⟨B,i,none⟩:=by
  intro i
  by_cases e:i=n
  . subst e; rw [if_pos rfl]; exact World.cell?_setCell_same _ _ _ E
  . rw [if_neg e]; exact World.cell?_setCell_other _ _ _ _ (λh=>e (by simpa using h.symm))
 refine ⟨h.below.setCell (by have:=h.old; simpa using this) _,h.old,by simpa using h.size,λi A=>?_,λi=>?_,λi A=>?_⟩
 . rw [key]; split
   . exact ⟨_,rfl⟩
   . exact h.there i A
 . rw [World.frozen?_setCell]; exact h.free i
 . rw [key]; split
   . rename_i e; rw [e]
   . exact h.has i (by omega)
theorem Laid.tabs {B:Nat} {W w:World} (h:Laid B 1024 W w):Tabs w B:=by
 intro k j hk A;have:=h.has (256 * k+j) (by omega);rw [this]; unfold TE;rw [show (256 * k+j) / 256=k by omega];rw [show BitVec.ofNat 8 (256 * k+j)=BitVec.ofNat 8 j from by apply BitVec.eq_of_toNat_eq; rw [BitVec.toNat_ofNat,BitVec.toNat_ofNat]; omega]
theorem aqp (k b:Nat) (hk:1<=k) (hb:b < 256) :
 ∃ x:BitVec 32,TE ((k - 1) * 256+b)=(x.toNat:Int)/\bits .xor .u32 (TE (x.setWidth 8).toNat) ((x.toNat:Int) / (256:Int))=TE (256 * k+b):=by
 obtain ⟨j,rfl⟩:∃ j,k=j+1:=⟨k - 1,by omega⟩;refine ⟨tab j (BitVec.ofNat 8 b),?_,?_⟩
 . unfold TE
   rw [show (j+1 - 1) * 256+b=256 * j+b by omega,show (256 * j+b) / 256=j by omega,show BitVec.ofNat 8 (256 * j+b)=BitVec.ofNat 8 b from by apply BitVec.eq_of_toNat_eq; rw [BitVec.toNat_ofNat,BitVec.toNat_ofNat]; omega]
 ·
  unfold TE;rw [show (256 * (j+1)+b) / 256=j+1 by omega,show BitVec.ofNat 8 (256 * (j+1)+b)=BitVec.ofNat 8 b from by apply BitVec.eq_of_toNat_eq; rw [BitVec.toNat_ofNat,BitVec.toNat_ofNat]; omega,ane,ata];have A:((tab j (BitVec.ofNat 8 b)).setWidth 8).toNat < 256:=((tab j (BitVec.ofNat 8 b)).setWidth 8).isLt;rw [Nat.div_eq_of_lt A,BitVec.ofNat_toNat,BitVec.setWidth_eq,wu]
theorem new_any (W:World) :
 Calls Tryz.prog 103 #[] W λe w'=>∃ B,e=.returned (.pointer (some ⟨B,0,none⟩))/\Laid B 1024 W w':=by
 have hb:=ag8;go_enter Tryz.func103,Tryz.ntmps103;go_wp2_with fail;clear hb;go_loopw [8] (λi wr=>∃ k:Nat,k<=256/\i=.int .i64 k/\Laid W.heap.size k W wr) (λi _=>256 - (intOf i).toNat)
 case atStart =>
  refine ⟨0,by omega,rfl,?_⟩;refine ⟨(Below.refl _ _).alloc (Nat.le_refl _) _,Nat.le_refl _,by simp,λi N=>⟨.int .u32 0,?_⟩,λi=>?_,λi N=>by omega⟩
  . rw [World.cell?_alloc_new]; exact ajb i N
  . simp [go_sem]
 case round =>
  obtain ⟨k,hk,rfl,A⟩:=hrel
  by_cases hlt:k < 256
  ·
   obtain ⟨v,R⟩:=A.there k (by omega);have U:=A.free k;have E:=zq A; clear A;go_wp2_with fail;have X:IntKind.u32.wrap (k:Int)=(k:Int):=by rw [IntKind.wrap_u32']; omega
   go_region_with (go_at_call 178; refine (ajc k (by omega) _).mono ?_; rintro e w' ⟨rfl,rfl⟩);go_wp2_with fail;go_roundw
   case rel=>exact ⟨k+1,by omega,by go_num,(E.o.set (by omega)).drew 1⟩
   case measure=>simp [intOf]; omega
  ·
   have Y:k=256:=by omega
   subst Y;go_wp2_with fail;go_loopw [3] (λi wr=>∃ k:Nat,1<=k/\k<=4/\i=.int .i64 k/\Laid W.heap.size (256 * k) W wr) (λi _=>4 - (intOf i).toNat)
   case atStart=>exact ⟨1,by omega,by omega,rfl,A⟩
   case round =>
    clear A;obtain ⟨k,I,Z,rfl,A⟩:=hrel
    by_cases hlt:k < 4
    ·
     have E:=zq A; clear A;go_wp2_with fail;obtain ⟨O,rfl⟩:∃ O:World,O=wr:=⟨_,rfl⟩;go_loopw [25] (λi wr=>∃ b:Nat,b<=256/\i=.int .i64 b/\Laid W.heap.size (256 * k+b) W wr) (λi _=>256 - (intOf i).toNat)
     case atStart=>exact ⟨0,by omega,rfl,E.o⟩
     case round =>
      clear E;obtain ⟨b,hb,rfl,A⟩:=hrel
      by_cases hb2:b < 256
      ·
       obtain ⟨x,J,F⟩:=aqp k b I hb2;have hc:=A.has ((k - 1) * 256+b) (by omega);rw [J] at hc;have h8:(x.setWidth 8).toNat < 256:=(x.setWidth 8).isLt;have ab:=A.has (x.setWidth 8).toNat (by omega);have ha:=af8 x;have ac:=ag6 x;generalize (x.setWidth 8).toNat=i at *
       obtain ⟨v,R⟩:=A.there (k * 256+b) (by omega);have U:=A.free (k * 256+b);have E:=zq A; clear A;have M:=zq F; clear F;have HX:=zq J; clear J;go_wp2_with fail;go_region;go_wp2_with fail;go_roundw
       case rel => 
        refine ⟨b+1,by omega,by go_num,?_⟩;have:=(E.o.set (by omega)).drew 1;rw [<- M.o,show 256 * k+b=k * 256+b by omega] at this;rw [show 256 * k+(b+1)=k * 256+b+1 by omega];exact this
       case measure=>simp [intOf]; omega
      . go_wp2_with fail
        go_roundw
        case rel=>exact ⟨k+1,by omega,by omega,by go_num,by rw [show 256 * (k+1)=256 * k+b by omega]; exact A⟩
        case measure=>simp [intOf]; omega
    . go_wp2_with fail
      go_ret;exact ⟨_,rfl,by rw [show 1024=256 * k by omega]; exact A⟩
def flat (ss:List ByteArray):List UInt8:=(ss.map λs=>s.data.toList).flatten
theorem atb (t:ByteArray):(t.extract 4 t.size).data.toList=t.data.toList.drop 4:=by
 exact Lib.extract_to_end t 4
theorem aoa (x:BitVec 32) (t:ByteArray):reg (reg x (t.data.toList.take 4)) (t.extract 4 t.size).data.toList=reg x t.data.toList:=by
 rw [atb,<- aa6,List.take_append_drop]
theorem aob (x:BitVec 32) (t:ByteArray) (i:Nat) (h:i < t.size):upd (reg x (t.data.toList.take i)) (t[i]).toBitVec=reg x (t.data.toList.take (i+1)):=by
 rw [List.take_succ_eq_append_getElem (by simpa using h),aa6,anc,ap8]; rfl
theorem alu (ss:List ByteArray) (k:Nat) (h:k < ss.length):flat (ss.take (k+1))=flat (ss.take k)++ss[k].data.toList:=by
 unfold flat; rw [List.take_succ_eq_append_getElem h,List.map_append,List.flatten_append]; simp
theorem Tabs.drawn {w u:World} {B:Nat} (h:Tabs w B) (hd:Drawn w u):Tabs u B:=by obtain ⟨n,rfl⟩:=hd; exact h
theorem afl (B:Nat) (b off cap:Nat) (ss:List ByteArray) (hn:ss.length<=maxLen) (hs:∀ i (h:i < ss.length),ss[i].size<=maxLen) (W:World)
 (hcell:∀ i (h:i < ss.length),W.cell? ⟨b,off+i,none⟩=some (.string ss[i])) (hT:Tabs W B) :
 Calls Tryz.prog 180 #[.pointer (some ⟨B,0,none⟩),.slice (some ⟨b,off,none⟩) ss.length cap] W λe w'=>e=.returned (.int .i64 (sum (flat ss)).toNat)/\Drawn W w':=by
 unfold maxLen at hn hs;have M:=zq hT; clear hT;have U:=zq hcell; clear hcell;have Z:=zq hs; clear hs;go_enter Tryz.func180,Tryz.ntmps180;go_wp2_with fail;go_loopw [5,13] (λx i wr=>∃ k:Nat,k<=ss.length/\i=.int .i64 k/\x=.int .u32 (reg (BitVec.allOnes 32) (flat (ss.take k))).toNat/\Drawn W wr) (λ_ i _=>ss.length - (intOf i).toNat)
 case atStart=>exact ⟨0,by omega,rfl,rfl,Drawn.refl _⟩
 case round =>
  obtain ⟨k,hk,rfl,rfl,A⟩:=hrel;generalize hX:reg (BitVec.allOnes 32) (flat (ss.take k))=X;have N:=zq hX; clear hX
  by_cases hlt:k < ss.length
  ·
   have hc:=U.o k hlt;rw [<- A.cell] at hc;have hz:=Z.o k hlt;generalize hsk:ss[k]=s at *
   have F:=zq hsk; clear hsk;go_wp2_with fail;obtain ⟨E,rfl⟩:∃ E:World,E=wr:=⟨_,rfl⟩;go_loopw [5,7] (λx t wr=>∃ (q:ByteArray) (y:BitVec 32),q.size<=s.size/\t=.string q/\x=.int .u32 y.toNat/\Drawn W wr/\Zq (reg X s.data.toList=reg y q.data.toList)) (λ_ t _=>match t with | .string q=>q.size | _=>0)
   case atStart=>exact ⟨s,X,Nat.le_refl _,rfl,rfl,A,rfl⟩
   case round =>
    clear hc A;obtain ⟨q,y,hq,rfl,rfl,A,O⟩:=hrel
    by_cases h4:4<=q.size
    . go_wp2_with (go_at_call 236; refine (an9 B y q h4 _ (M.o.drawn A)).mono ?_; rintro e w' ⟨rfl,I⟩)
      go_roundw
      case rel => 
       exact ⟨q.extract 4 q.size,_,by simp; omega,rfl,rfl,A.trans I,O.o.trans (aoa y q).symm⟩
      case measure=>simp; omega
    ·
     go_wp2_with fail;obtain ⟨E,rfl⟩:∃ E:World,E=wr:=⟨_,rfl⟩;go_loopw [5,30] (λx i wr=>∃ (k:Nat),k<=q.size/\i=.int .i64 k/\x=.int .u32 (reg y (q.data.toList.take k)).toNat/\Drawn W wr) (λ_ i _=>q.size - (intOf i).toNat)
     case atStart=>exact ⟨0,by omega,rfl,rfl,A⟩
     case round =>
      clear A;obtain ⟨j,hj,rfl,rfl,A⟩:=hrel
      by_cases hj2:j < q.size
      ·
       generalize hY:reg y (q.data.toList.take j)=Y;have HY:=zq hY; clear hY;go_wp2_with fail;go_quiet ((go_at_call 237; exact aie (aqo B Y q[j] _ (M.o.drawn (A.drewN _)))));go_wp2_with fail;go_roundw
       case rel =>
        exact ⟨j+1,by omega,by go_num,by rw [<- aob y q j hj2,HY.o],A.drewN _⟩
       case measure=>simp [intOf]; omega
      . go_wp2_with fail
        go_roundw
        case rel =>
         refine ⟨k+1,by omega,by go_num,?_,A⟩;have h1:j=q.size:=by omega
         have h2:q.data.toList.take j=q.data.toList:=List.take_of_length_le (by rw [h1]; exact Nat.le_refl _);rw [h2,<- O.o,alu ss k hlt,aa6,N.o,F.o]
        case measure=>simp [intOf]; omega
  ·
   have R:k=ss.length:=by omega
   have J:=zq R; clear R;go_wp2_with fail;go_ret;refine ⟨yh ?_,A⟩
   have hu:bits .xor .u32 IntKind.u32.max (X.toNat:Int)=((~~~X).toNat:Int):=by
    rw [show IntKind.u32.max=((BitVec.allOnes 32).toNat:Int) from by decide,wu,BitVec.allOnes_xor]
   have:=(~~~X).isLt;rw [hu];unfold sum;rw [<- N.o,J.o,List.take_of_length_le (Nat.le_refl _)] at *
   exact IntWalk.wrap64_in _ (by omega)
theorem acf (n:Nat) (hn:n < 4294967296):∃ c0 c1 c2 c3:UInt8,Zq (be4 n=[c0,c1,c2,c3]) /\
 (n:Int) / 16777216=(c0.toNat:Int)/\(n:Int) / 65536 % 256=(c1.toNat:Int)/\(n:Int) / 256 % 256=(c2.toNat:Int)/\(n:Int) % 256=(c3.toNat:Int):=by
 refine ⟨_,_,_,_,rfl,?_,?_,?_,?_⟩ <;> simp only [UInt8.toNat_ofNat'] <;> omega
theorem akj (n:Nat) (hn:n < 4294967296) (c0 c1 c2 c3:UInt8) (hb:Zq (be4 n=[c0,c1,c2,c3])) (w:World) :
 Calls Tryz.prog 179 #[.int .i64 (n:Int)] w λe w'=>e=.returned (.agg #[.int .u8 c0.toNat,.int .u8 c1.toNat,.int .u8 c2.toNat,.int .u8 c3.toNat])/\Below w.heap.size w w':=by
 obtain ⟨B,d1,d2,d3,A,E,F,I,J⟩:=acf n hn;obtain ⟨rfl,rfl,rfl,rfl⟩:c0=B/\c1=d1/\c2=d2/\c3=d3:=by have:=hb.o.symm.trans A.o; simpa using this
 clear hb A;go_enter Tryz.func179,Tryz.ntmps179;go_wp2_with fail
 exact bodyPost_ret (v:=.agg #[.int .u8 c0.toNat,.int .u8 c1.toNat,.int .u8 c2.toNat,.int .u8 c3.toNat]) (by simp [results,Tryz.results179,go_sem]) rfl
  ⟨rfl,(Below.refl _ _).alloc (Nat.le_refl _) _⟩
theorem aoc (n:Nat) (hn:n < 4294967296) (w:World) :
 Calls Tryz.prog 179 #[.int .i64 (n:Int)] w λe w'=>∃ c0 c1 c2 c3:UInt8,Zq (be4 n=[c0,c1,c2,c3]) /\
  e=.returned (.agg #[.int .u8 c0.toNat,.int .u8 c1.toNat,.int .u8 c2.toNat,.int .u8 c3.toNat])/\Below w.heap.size w w':=by
 obtain ⟨c0,c1,c2,c3,hb,_⟩:=acf n hn;exact (akj n hn c0 c1 c2 c3 hb w).mono λe w' h=>⟨c0,c1,c2,c3,hb,h⟩
theorem ag9 (B:Nat) (s:ByteArray) (hs:s.size<=140737488355328) (w:World) (hB:B < w.heap.size) (hT:Tabs w B) :
 Calls Tryz.prog 104 #[.pointer (some ⟨B,0,none⟩),.string s] w λe w'=>e=.returned (.string ⟨(ai s.data.toList).toArray⟩)/\Below w.heap.size w w':=by
 have N:=zq hT; clear hT;go_enter Tryz.func104,Tryz.ntmps104;go_wp2_with fail;have A:Below w.heap.size w (w.alloc (.cells #[.string s] 9)):=(Below.refl _ _).alloc (Nat.le_refl _) _;have F:Tabs (w.alloc (.cells #[.string s] 9)) B:=λk j hk O=>by rw [A.cell (by simpa using hB)]; exact N.o k j hk O
 refine (afl B w.heap.size 0 1 [s] (by simp [maxLen]) (by simp [maxLen]; omega) _ (λi M=>?_) F).mono ?_
 . have:i=0:=by simpa using M
   subst this; simp [go_sem]
 rintro e w1 ⟨rfl,hd⟩;have R:=(sum (flat [s])).isLt;have I:Below w.heap.size w w1:=A.trans (hd.below _);have U:Zq ((sum (flat [s])).toNat=(sum s.data.toList).toNat):=by unfold flat; simp [Zq]
 generalize (sum (flat [s])).toNat=n at *
 have E:=zq I;clear I A F hd;go_wp2_with (go_at_call 179; refine (aoc n R _).mono ?_; rintro e w2 ⟨c0,c1,c2,c3,hb,rfl,J⟩)
 rw [abh (P:=Tryz.prog) _ 241 5 9 Tryz.underlying241 Tryz.underlying5 Tryz.underlying9 w2.heap.size 0 4 [c0,c1,c2,c3] (λi M=>by
  rw [World.cell?_alloc_new]; match i,M with | 0,_=>rfl | 1,_=>rfl | 2,_=>rfl | 3,_=>rfl) 4 rfl]
 go_wp2_with fail;go_ret;refine ⟨yj ?_,(E.o.trans (J.mono E.o.size)).alloc (Nat.le_trans E.o.size J.size) _⟩;unfold ai;rw [<- U.o,hb.o];apply ByteArray.ext;apply Array.ext';simp
def Ext (w w':World):Prop:=Below w.heap.size w w'
theorem Ext.refl (w:World):Ext w w:=Below.refl _ _
theorem Ext.trans {u v w:World} (h:Ext u v) (k:Ext v w):Ext u w:=Below.trans h (Below.mono k h.size)
def Four (b:Nat) (c0 c1 c2 c3:UInt8) (w:World):Prop:=b < w.heap.size/\w.cell? ⟨b,0,none⟩=some (.int .u8 c0.toNat)/\w.cell? ⟨b,1,none⟩=some (.int .u8 c1.toNat)/\w.cell? ⟨b,2,none⟩=some (.int .u8 c2.toNat)/\w.cell? ⟨b,3,none⟩=some (.int .u8 c3.toNat)
theorem eq4 (x0 x1 x2 x3 y0 y1 y2 y3:Int) (w:World):(Op.equalIn 10000 269 (.agg #[.int .u8 x0,.int .u8 x1,.int .u8 x2,.int .u8 x3]) (.agg #[.int .u8 y0,.int .u8 y1,.int .u8 y2,.int .u8 y3])).run Tryz.prog w
 = .ok (x0 == y0 && x1 == y1 && x2 == y2 && x3 == y3) w:=by
 show (Op.equalIn (9999+1) _ _ _).run _ _=_;unfold Op.equalIn;have A:(sizeOf 5).run Tryz.prog w=.ok 1 w:=by kernel_rfl
 simp only [go_sem,Sem.run_bind,run_underlying Tryz.underlying269,A,Result.andThen,Std.Legacy.Range.forIn_eq_forIn_range',Std.Legacy.Range.size];simp [List.range',go_sem,run_equalIn_int _ 9998 _ _ _ _ _ Tryz.underlying5]
 by_cases h0:x0=y0 <;> by_cases h1:x1=y1 <;> by_cases h2:x2=y2 <;> by_cases h3:x3=y3 <;> simp [h0,h1,h2,h3]
theorem Tabs.ext {w w':World} {B:Nat} (h:Tabs w B) (hB:B < w.heap.size) (he:Ext w w'):Tabs w' B:=λk j hk A=>by rw [Below.cell he (by simpa using hB)]; exact h k j hk A
theorem alv (s:ByteArray) (hs4:4<=s.size) (n:Nat) (c0 c1 c2 c3:UInt8) (hb:be4 n=[c0,c1,c2,c3]) :
 ((s[0].toNat:Int) == (c0.toNat:Int) && (s[1].toNat:Int) == (c1.toNat:Int) && (s[2].toNat:Int) == (c2.toNat:Int) && (s[3].toNat:Int) == (c3.toNat:Int))=decide (s.data.toList=be4 n++s.data.toList.drop 4):=by
 have h:s.data.toList=[s[0],s[1],s[2],s[3]]++s.data.toList.drop 4:=by
  conv=>lhs; rw [<- List.take_append_drop 4 s.data.toList]
  rw [arx s hs4]
 rw [hb]
 conv=>rhs; arg 1; lhs; rw [h]
 rw [Bool.eq_iff_iff];simp [Int.ofNat_inj,UInt8.toNat_inj,and_assoc]
theorem Four.ext {b:Nat} {c0 c1 c2 c3:UInt8} {w w':World} (h:Four b c0 c1 c2 c3 w) (hR:Below w.heap.size w w'):Four b c0 c1 c2 c3 w':=by
 obtain ⟨h0,h1,A,B,E⟩:=h;exact ⟨Nat.lt_of_lt_of_le h0 hR.size,by rw [hR.cell h0]; exact h1,by rw [hR.cell h0]; exact A,by rw [hR.cell h0]; exact B,by rw [hR.cell h0]; exact E⟩
theorem alx (B:Nat) (s:ByteArray) (hs4:4<=s.size) (hs:s.size<=140737488355328) (w:World) (hB:B < w.heap.size) (hT:Tabs w B) :
 Calls Tryz.prog 143 #[.pointer (some ⟨B,0,none⟩),.string s] w λe w' => 
  e=.returned (if s.data.toList=ai (s.data.toList.drop 4) then .tuple #[.string (s.extract 4 s.size),.bool true] else .tuple #[.string ⟨#[]⟩,.bool false])/\Below w.heap.size w w':=by
 have HT:=zq hT; clear hT;have hn:=(sum (s.data.toList.drop 4)).isLt;obtain ⟨c0,c1,c2,c3,hb,-⟩:=acf (sum (s.data.toList.drop 4)).toNat hn;generalize hN:(sum (s.data.toList.drop 4)).toNat=n at *
 have HN:=zq hN; clear hN;go_enter Tryz.func143,Tryz.ntmps143;go_wp2_with fail;have hd:decide ((s.size:Int) < 4)=false:=by simp; omega
 have U:(4:Int)<=(s.size:Int):=by omega
 refine Grow.jc 21 [none,none,none,none,none,none,none,none,none,none,
  some (.inr λv w=>∃ b c,v=.slice (some ⟨b,0,none⟩) 4 c/\Four b s[0] s[1] s[2] s[3] w),
  some (.inr λv w=>∃ b,v=.pointer (some ⟨b,0,none⟩)/\Four b s[0] s[1] s[2] s[3] w),
  some (.inl (.agg #[.int .u8 s[0].toNat,.int .u8 s[1].toNat,.int .u8 s[2].toNat,.int .u8 s[3].toNat])),
  none,none,none,
  some (.inr λv w=>∃ b,v=.slice (some ⟨b,0,none⟩) 1 1/\b < w.heap.size/\w.cell? ⟨b,0,none⟩=some (.string (s.extract 4 s.size))),
  some (.inl (.int .i64 (n:Int))),
  some (.inl (.agg #[.int .u8 c0.toNat,.int .u8 c1.toNat,.int .u8 c2.toNat,.int .u8 c3.toNat])),
  none,none] Ext (by kernel_rfl) (by kernel_rfl) (by kernel_rfl) Ext.refl (λ_ _ _=>Ext.trans) ?_ ?_
 ·
  intro K hK Y hY v w w' R h;have R:Below w.heap.size w w':=R;simp only [List.mem_cons,List.not_mem_nil,or_false] at hK
  rcases hK with rfl | rfl | rfl | rfl | rfl | rfl | rfl | rfl | rfl | rfl | rfl | rfl | rfl | rfl | rfl | rfl | rfl | rfl | rfl | rfl | rfl <;> simp only [reduceCtorEq,Option.some.injEq,Sum.inr.injEq] at hY
  . subst hY; obtain ⟨b,c,rfl,hf⟩:=h; exact ⟨b,c,rfl,hf.ext R⟩
  . subst hY; obtain ⟨b,rfl,hf⟩:=h; exact ⟨b,rfl,hf.ext R⟩
  . subst hY; obtain ⟨b,rfl,hb,hc⟩:=h; exact ⟨b,rfl,Nat.lt_of_lt_of_le hb R.size,by rw [R.cell hb]; exact hc⟩
 simp only [List.take_succ_cons,List.take_zero,List.drop_succ_cons,List.drop_zero]
 iterate 10 (
  refine Grow.g_det rfl ?_;apply Exists.intro;refine ⟨λw I A=>?_,?_⟩
  . clear A
    go_simp;exact ⟨rfl,Ext.refl _⟩
  go_frame)
 refine Grow.g_new rfl (λw2 I A=>?_) (λv10=>?_)
 ·
  clear A;obtain ⟨c,w3,X,N,a1,_,E,_⟩:=afv (P:=Tryz.prog) w2 9 241 5 (s.extract 0 4) Tryz.underlying9 Tryz.underlying241 Tryz.underlying5;have O:(s.extract 0 4).size=4:=by simp; omega
  rw [O] at X;have HC:=zq E; clear E;have al:=zq O; clear O;go_simp;refine ⟨⟨by omega,?_,?_,?_,?_⟩,N⟩
  all_goals (rw [HC.o _ (by rw [al.o]; omega)]; simp [ByteArray.getElem_extract])
 simp only [Act.put,List.setIfInBounds_toArray,List.set_cons_zero,List.set_cons_succ,Grow.afu];refine Grow.g_new rfl (λw2 I A=>?_) (λv11=>?_)
 ·
  obtain ⟨b,c,rfl,F⟩:=A _ (List.Mem.head _) (by simp [Oper.looksAt,Op.operands,Call.operands]);clear A;have ar:∀ w,(Instr.arrayAt 269 (.slice (some ⟨b,0,none⟩) 4 c)).run Tryz.prog w=.ok (.pointer (some ⟨b,0,none⟩)) w:=λw=>by kernel_rfl
  go_simp;exact Ext.refl _
 simp only [Act.put,List.setIfInBounds_toArray,List.set_cons_zero,List.set_cons_succ,Grow.afu];refine Grow.g_con rfl (λw2 I A=>?_) ?_
 ·
  obtain ⟨b,rfl,F⟩:=A _ (List.Mem.head _) (by simp [Oper.looksAt,Op.operands,Call.operands]);clear A;obtain ⟨h0,h1,h2,h3,h4⟩:=F;go_simp;exact Ext.refl _
 simp only [Act.put,List.setIfInBounds_toArray,List.set_cons_zero,List.set_cons_succ,Grow.afu]
 iterate 3 (
  refine Grow.g_det rfl ?_;apply Exists.intro;refine ⟨λw I A=>?_,?_⟩
  . clear A
    go_simp;exact ⟨rfl,Ext.refl _⟩
  go_frame)
 refine Grow.g_new rfl (λw2 I A=>?_) (λv16=>?_)
 . clear A
   go_simp;exact (Below.refl _ _).alloc (Nat.le_refl _) _
 simp only [Act.put,List.setIfInBounds_toArray,List.set_cons_zero,List.set_cons_succ,Grow.afu];refine Grow.g_con rfl (λw2 I A=>?_) ?_
 ·
  obtain ⟨b,rfl,a7,am⟩:=A _ (List.Mem.head _) (by simp [Oper.looksAt,Op.operands,Call.operands]);clear A;go_simp;refine (afl B b 0 1 [s.extract 4 s.size] (by simp [maxLen]) (by simp [maxLen]; omega) w2 (λi hi=>?_) (Tabs.ext (w:=w.drew) HT.o (by simpa using hB) I)).mono ?_
  . have:i=0:=by simpa using hi
    subst this; simpa using am
  . rintro e w3 ⟨rfl,hd⟩
    exact ⟨_,rfl,by rw [<- HN.o]; unfold flat; rw [List.map_cons,List.map_nil,Lib.extract_to_end]; simp,hd.below _⟩
 go_frame;refine Grow.g_con rfl (λw2 I A=>?_) ?_
 . clear A
   go_simp;exact (akj n hn c0 c1 c2 c3 hb w2).mono λe w3 ⟨he,N⟩=>⟨_,he,rfl,N⟩
 go_frame;have HQ:=λw=>eq4 (s[0].toNat:Int) (s[1].toNat:Int) (s[2].toNat:Int) (s[3].toNat:Int) (c0.toNat:Int) (c1.toNat:Int) (c2.toNat:Int) (c3.toNat:Int) w
 rw [alv s hs4 n c0 c1 c2 c3 hb.o] at HQ;generalize htst:decide (s.data.toList=be4 n++s.data.toList.drop 4)=tst at HQ;have J:=zq htst; clear htst
 iterate 2
  refine Grow.g_det rfl ?_;apply Exists.intro;refine ⟨λw I A=>?_,?_⟩
  . clear A
    go_simp;exact ⟨rfl,Ext.refl _⟩
  go_frame
 refine Grow.g_nil λw3 Z A=>?_
 clear A HQ;refine wpList_nil ?_;have HW:Zq (Below w.heap.size w w3):=(Below.refl _ _).drew.trans Z;clear Z;have M:Zq (tst=decide (s.data.toList=ai (s.data.toList.drop 4))):=by unfold ai; rw [HN.o]; exact J.o.symm
 clear J;clear HN HT hb hd U hn
 cases tst
 ·
  simp only [Bool.not_false]
  repeat go_step
  go_ret2;refine ⟨?_,HW.o⟩;rw [if_neg (of_decide_eq_false M.o.symm)];rfl
 ·
  simp only [Bool.not_true]
  repeat go_step
  go_ret2;refine ⟨?_,HW.o⟩;rw [if_pos (of_decide_eq_true M.o.symm)];rfl
end CrcW
namespace RecW
open Go.RowKit OctMath RecMath NameMath
theorem aa8 {w w':World} {B:Nat} (h:CrcW.Tabs w B) (hB:B < w.heap.size) (hb:Below w.heap.size w w'):CrcW.Tabs w' B :=
 λk j hk A=>by rw [hb.cell (by simpa using hB)]; exact h k j hk A
theorem put_any (B:Nat) (m:Msg) (hm:uq m) (a:Option Addr) (c:Nat) (W:World) (hB:B < W.heap.size) (hT:CrcW.Tabs W B) (hS:Strs W a (m.keys.map S)) :
 Calls Tryz.prog 188 #[.pointer (some ⟨B,0,none⟩),.agg (af m a c)] W λe w'=>e=.returned (.tuple #[.string (S (aca m).1),.int .i64 (aca m).2])/\Below W.heap.size W w':=by
 have N:Zq (Below W.heap.size W (W.alloc (.cells (af m a c) 71))):=(Below.refl _ W).alloc (Nat.le_refl _) _;have HX:Zq (Boxed (W.alloc (.cells (af m a c) 71)) W.heap.size (af m a c)):=Boxed.new W _ _;have Y:=zq (Strs.below hS N.o);have HT:=zq hT;have O:=zq hB;have HM:=zq hm;have M:Zq (aca m=if bq m=false then ([],1) else if m.kind=0 then (if m.body.length < 3 then ([],1) else (oo m.body.length,0)) else (bi m,0)):=rfl;have bo:=au;have bp:m.body.length<=1073741824:=hm.body;have am:(af m a c).size=10:=rfl;clear hm hS hT hB;go_enter Tryz.func188,Tryz.ntmps188;go_upto_region 1 with fail
 generalize W.alloc (.cells (af m a c) 71)=w1 at *
 clear am;obtain ⟨A,R⟩:∃ A,W.heap.size=A:=⟨_,rfl⟩;rw [R] at HX N ⊢ O;obtain ⟨k0,k1,k2,k3,k4,k5,k6,k7,k8,k9⟩:=RecW.oz HX.o;have HR:=zq (right_any m HM.o a c w1 Y.o);generalize hrl:bq m=rl at *
 go_wp2_with fail;refine HR.o.mono ?_;rintro e w2 ⟨rfl,hb⟩;have F:=zq (N.o.trans (hb.mono (by have:=N.o.size; omega)));have E:=zq (HX.o.below hb);have ba:=zq (Strs.below Y.o hb);clear hb HR k0 k1 k2 k3 k4 k5 k6 k7 k8 k9
 cases rl with
 | false =>
   have U:Zq (aca m=([],1)):=by show _=_; rw [M.o,if_pos rfl]
   clear M;go_wp2_with fail;go_ret2;exact ⟨by rw [U.o]; rfl,R ▸ F.o⟩
 | true =>
   replace M:Zq (aca m=if m.kind=0 then (if m.body.length < 3 then ([],1) else (oo m.body.length,0)) else (bi m,0)):=by show _=_; rw [M.o,if_neg (by simp)]
   have k0:w2.cell? ⟨A,0,none⟩=some (.int .i64 m.kind):=E.o 0 _ rfl;have k8:w2.cell? ⟨A,8,none⟩=some (.string (S m.body)):=E.o 8 _ rfl
   by_cases h0:m.kind=0
   case pos =>
    replace M:Zq (aca m=if m.body.length < 3 then ([],1) else (oo m.body.length,0)):=by show _=_; rw [M.o,if_pos h0]
    have ad:m.body.length<=1024:=by
     have h:=hrl;unfold bq at h
     split at h
     . cases h
     . simp [h0] at h
       exact h.1.1
    have J:=zq (ag3 (m.body.length:Int) (by omega) (by omega) w2);clear hrl
    by_cases h3:m.body.length < 3
    ·
     rw [decide_eq_false (by omega)] at J;have U:Zq (aca m=([],1)):=by show _=_; rw [M.o,if_pos h3]
     clear M;go_wp2_with fail;refine J.o.mono ?_;rintro e w3 ⟨rfl,hb⟩;have I:=zq (F.o.trans (hb.mono (by have:=F.o.size; omega)));clear hb J;go_wp2_with fail;go_ret2;exact ⟨by rw [U.o]; rfl,R ▸ I.o⟩
    ·
     rw [decide_eq_true (by omega)] at J;have U:Zq (aca m=(oo m.body.length,0)):=by show _=_; rw [M.o,if_neg h3]
     clear M;go_wp2_with fail;refine J.o.mono ?_;rintro e w3 ⟨rfl,hb⟩;have I:=zq (F.o.trans (hb.mono (by have:=F.o.size; omega)));clear hb J;go_wp2_with fail;go_ret2;exact ⟨by rw [U.o]; rfl,R ▸ I.o⟩
   case neg =>
    have U:Zq (aca m=(bi m,0)):=by show _=_; rw [M.o,if_neg h0]
    have k1:w2.cell? ⟨A,1,none⟩=some (.int .i64 m.queue):=E.o 1 _ rfl;have k2:w2.cell? ⟨A,2,none⟩=some (.int .i64 m.due):=E.o 2 _ rfl;have k3:w2.cell? ⟨A,3,none⟩=some (.int .i64 m.retry):=E.o 3 _ rfl;have k4:w2.cell? ⟨A,4,none⟩=some (.int .i64 m.ref):=E.o 4 _ rfl;have k5:w2.cell? ⟨A,5,none⟩=some (.int .i64 m.born):=E.o 5 _ rfl;have k6:w2.cell? ⟨A,6,none⟩=some (.string (S m.topic)):=E.o 6 _ rfl;have k7:w2.cell? ⟨A,7,none⟩=some (.string (S m.tag)):=E.o 7 _ rfl;have k9:w2.cell? ⟨A,9,none⟩=some (.slice a m.keys.length c):=E.o 9 _ rfl;have br:=yt hrl h0;have HI:=zq (ai9 m hrl h0 a c w2 ba.o);have X:=zq (λ(w':World) (hb:Below A W w')=>CrcW.ag9 B (S (ax m)) (by rw [au]; omega) w' (by have:=hb.size; have:=O.o; omega) (aa8 HT.o (by rw [R]; exact O.o) (by rw [R]; exact hb)));have Z:(⟨(CrcMath.ai (S (ax m)).data.toList).toArray⟩:ByteArray)=S (CrcMath.ai (ax m)):=by rw [kg]; rfl
    rw [Z] at X;have bb:(S (CrcMath.ai (ax m))).size=4+(ax m).length:=by rw [au,CrcMath.ji]
    have n2:OctW.ol 2 [(3:Int)+((S (CrcMath.ai (ax m))).size:Int)]=(be 2 (3+(CrcMath.ai (ax m)).length),0):=by
     have e:(3:Int)+((S (CrcMath.ai (ax m))).size:Int)=((3+(CrcMath.ai (ax m)).length:Nat):Int):=by rw [au]; omega
     have hl:=CrcMath.ji (ax m);rw [e,show (2:Int)=((2:Nat):Int) from rfl,abu 2 _ (by omega) (by omega) (λx hx=>by rw [List.mem_singleton] at hx; subst hx; exact ⟨by omega,by show _ < ((256 ^ 2:Nat):Int); omega⟩)];show ([((3+(CrcMath.ai (ax m)).length:Nat):Int)].flatMap λx=>be 2 x.toNat,0)=_;rw [List.flatMap_cons,List.flatMap_nil,List.append_nil,Int.toNat_natCast]
    have HN:=zq (λ(w:World)=>OctW.nums_any 2 (by omega) (by omega) (some ⟨w.heap.size,0,none⟩) 1 [(3:Int)+((S (CrcMath.ai (ax m))).size:Int)] (by simp) (λx hx=>by simp at hx; omega) _ (aaf w _ 3));rw [n2] at HN;change Zq (∀ w:World,Calls _ _ #[.int .i64 2,.slice (some ⟨w.heap.size,0,none⟩) 1 1] (w.alloc (.cells #[.int .i64 ((3:Int)+((S (CrcMath.ai (ax m))).size:Int))] _)) _) at HN
    have bc:Zq (S [165]++S (be 2 (3+(CrcMath.ai (ax m)).length))++S (CrcMath.ai (ax m))=S (bi m)):=by
     show _=_;rw [gu,gu]; rfl
    have z2:(S (be 2 (3+(CrcMath.ai (ax m)).length))).size=2:=by rw [au,bn]
    generalize S (be 2 (3+(CrcMath.ai (ax m)).length))=s2 at *
    generalize S (CrcMath.ai (ax m))=se at *
    generalize S (ax m)=si at *
    generalize (ax m).length=il at *
    clear Z n2 hrl M;rw [bb] at HN;go_wp2_with fail;refine HI.o.mono ?_;rintro e w3 ⟨rfl,hb⟩;have I:=zq (F.o.trans (hb.mono (by have:=F.o.size; omega)));clear hb HI k0 k1 k2 k3 k4 k5 k6 k7 k8 k9;go_wp2_with fail;refine (X.o w3 I.o).mono ?_;rintro e w4 ⟨rfl,hb⟩;have ac:=zq (I.o.trans (hb.mono (by have:=I.o.size; omega)));clear hb X;go_wp2_with fail;refine (HN.o w4).mono ?_;rintro e w5 ⟨rfl,hb⟩;have bd:=zq (ac.o.trans ((((Below.refl w4.heap.size w4).alloc (Nat.le_refl _) _).trans (hb.mono (by rw [World.size_alloc]; omega))).mono (by have:=ac.o.size; omega)));clear hb HN;go_wp2_with fail;go_ret2;exact ⟨by rw [U.o,<- bc.o]; rfl,R ▸ bd.o⟩
end RecW
namespace MapG
open Go.RowKit Go.MapKept
variable {P:Program}
structure Keyed (P:Program) (kt:TypeId) (K:Value->Prop):Prop where
 check:∀ k,K k->∀ e w,(Instr.checkKey e 10000 kt k).run P w=.ok () w
 find:∀ k,K k->∀ l:List MapEntry,(∀ x∈l,K x.key)->∀ w,((∀ x∈l,x.key≠k)/\(Instr.findKey kt k l).run P w=.ok none w)\/∃ j e,(Instr.findKey kt k l).run P w=.ok (some (j,e.val)) w/\l[j]?=some e/\e.key=k
 stays:∀ k,K k->∀ w,(Instr.keyThatStays k k).run P w=.ok k w
theorem Keyed.of_isKey {kt:TypeId} {d:TypeDesc} (hd:P.underlying kt=some d):Keyed P kt (IsKey d):=by
 refine ⟨λk hk e w=>Go.MapKept.run_checkKey hd hk e 9999,λk hk l A w=>?_,λk hk w=>Go.MapKept.run_keyThatStays hk⟩
 rcases findNow_spec hk l 0 A with ⟨h1,h2⟩ | ⟨j,e,h1,h2,h3⟩
 . exact .inl ⟨h2,Go.MapKept.run_findKey hd h1⟩
 . exact .inr ⟨j,e,by rw [Go.MapKept.run_findKey hd h1,Nat.zero_add],h2,h3⟩
theorem ad5 {kt:TypeId} {K:Value->Prop} (heq:∀ a b,K a->K b->∀ w,∃ r,(Op.equal kt a b).run P w=.ok r w/\(r=true↔a=b)) {k:Value} (hk:K k) (w:World):∀ (l:List MapEntry) (i:Nat),(∀ x∈l,K x.key) ->
 ((∀ x∈l,x.key≠k)/\(Instr.findAsking kt k l i).run P w=.ok none w)\/∃ j e,(Instr.findAsking kt k l i).run P w=.ok (some (i+j,e.val)) w/\l[j]?=some e/\e.key=k
 | [],i,_=>.inl ⟨by simp,by simp [Instr.findAsking]⟩
 | e :: es,i,h=>by
   obtain ⟨r,E,A⟩:=heq k e.key hk (h e (.head _)) w
   cases r with
   | true=>exact .inr ⟨0,e,by simp [Instr.findAsking,Sem.run_bind,E,Result.andThen],rfl,(A.1 rfl).symm⟩
   | false =>
     have F:e.key≠k:=λq=>by have:=A.2 q.symm; cases this
     rcases ad5 heq hk w es (i+1) (λx B=>h x (.tail _ B)) with ⟨h1,h2⟩ | ⟨j,e',h1,h2,h3⟩
     . exact .inl ⟨λx B=>by
        cases B with
        | head=>exact F
        | tail _ B=>exact h1 x B,by simp [Instr.findAsking,Sem.run_bind,E,Result.andThen,h2]⟩
     . exact .inr ⟨j+1,e',by simp [Instr.findAsking,Sem.run_bind,E,Result.andThen,h1]; omega,by simpa using h2,h3⟩
theorem Keyed.of_equal {kt:TypeId} {d:TypeDesc} {K:Value->Prop} (hd:P.underlying kt=some d) (hnow:∀ a b,K a->K b->Instr.sameNow d a b=none) (heq:∀ a b,K a->K b->∀ w,∃ r,(Op.equal kt a b).run P w=.ok r w/\(r=true↔a=b))
 (hc:∀ k,K k->∀ e w,(Instr.checkKey e 10000 kt k).run P w=.ok () w) (hs:∀ k,K k->Instr.sameBits 10000 k k=true):Keyed P kt K:=by
 refine ⟨hc,λk hk l A w=>?_,λk hk w=>by simp [Instr.keyThatStays,hs k hk]⟩
 cases l with
 | nil=>exact .inl ⟨by simp,by simp [Instr.findKey,run_underlying hd,Result.andThen,Instr.findNow]⟩
 | cons e es =>
   have B:Instr.findNow d k (e :: es) 0=none:=by simp [Instr.findNow,hnow k e.key hk (A e (.head _))]
   have E:(Instr.findKey kt k (e :: es)).run P w=(Instr.findAsking kt k (e :: es) 0).run P w:=by simp [Instr.findKey,run_underlying hd,Result.andThen,B]
   rw [E]
   rcases ad5 heq hk w (e :: es) 0 A with ⟨h1,h2⟩ | ⟨j,e',h1,h2,h3⟩
   . exact .inl ⟨h1,h2⟩
   . exact .inr ⟨j,e',by rw [h1,Nat.zero_add],h2,h3⟩
def PairsAt (w:World) (b:Nat) (l:List (Value×Value)):Prop:=∃ es c,w.heap[b]?=some (.map es c)/\Stamped es c/\es.toList.map (λe=>(e.key,e.val))=l
theorem PairsAt.lt {w:World} {b:Nat} {l:List (Value×Value)} (h:PairsAt w b l):b < w.heap.size:=by
 obtain ⟨es,c,h1,_⟩:=h; exact (Array.getElem?_eq_some_iff.1 h1).1
theorem PairsAt.mod {w w':World} {b:Nat} {l:List (Value×Value)} {M:Nat->Prop} (h:PairsAt w b l) (hm:Mod M w w') (hM:¬ M b):PairsAt w' b l:=by
 obtain ⟨es,c,h1,A,B⟩:=h;exact ⟨es,c,(hm.block b (Array.getElem?_eq_some_iff.1 h1).1 hM).trans h1,A,B⟩
theorem PairsAt.below {w w':World} {b:Nat} {l:List (Value×Value)} (h:PairsAt w b l) (hb:Below w.heap.size w w'):PairsAt w' b l:=h.mod (M:=λ_=>False) (Mod.of_below hb) (λh=>h)
theorem PairsAt.new (w:World):PairsAt (w.alloc (.map #[] 0)) w.heap.size []:=⟨#[],0,heap_alloc_new w _,stamped_empty 0,rfl⟩
theorem PairsAt.nodup {w:World} {b:Nat} {l:List (Value×Value)} (h:PairsAt w b l):(l.map (·.1)).Nodup:=by
 obtain ⟨es,c,h1,A,B⟩:=h;rw [<- B,List.map_map];exact A.2.2
theorem abv {K:Value->Prop} {es:List MapEntry} {l:List (Value×Value)} (h:es.map (λe=>(e.key,e.val))=l) (hl:∀ p∈l,K p.1):∀ x∈es,K x.key:=λx A=>hl (x.key,x.val) (h ▸ List.mem_map.2 ⟨x,A,rfl⟩)
theorem aod {l:List (Value×Value)} (h:(l.map (·.1)).Nodup) {k a b:Value} (ha:(k,a)∈l) (hb:(k,b)∈l):a=b:=by
 induction l with
 | nil=>cases ha
 | cons p l ih =>
   simp only [List.map_cons,List.nodup_cons] at h
   rcases List.mem_cons.1 ha with e1 | h1 <;> rcases List.mem_cons.1 hb with e2 | h2
   . rw [<- e1] at e2; exact (Prod.mk.inj e2).2.symm
   . exact absurd (List.mem_map.2 ⟨_,h2,rfl⟩) (by rw [<- e1] at h; exact h.1)
   . exact absurd (List.mem_map.2 ⟨_,h1,rfl⟩) (by rw [<- e2] at h; exact h.1)
   . exact ih h.2 h1 h2
theorem yz {mt kt et:TypeId} {K:Value->Prop} (hm:P.underlying mt=some (.map kt et)) (hK:Keyed P kt K) {w:World} {b:Nat} {l:List (Value×Value)} (h:PairsAt w b l) (hl:∀ p∈l,K p.1) {k v:Value} (hk:K k) (hv:(k,v)∈l) (ok:Bool) :
 (Instr.lookup mt (.map (some b)) k ok).run P w=.ok (if ok then .tuple #[v,.bool true] else v) w:=by
 have B:=h.nodup;obtain ⟨es,c,hb,I,A⟩:=h
 rcases hK.find k hk es.toList (abv A hl) w with ⟨h1,h2⟩ | ⟨j,e,h1,h2,h3⟩
 ·
  exfalso;rw [<- A] at hv;obtain ⟨x,J,M⟩:=List.mem_map.1 hv;exact h1 x J (Prod.mk.inj M).1
 ·
  have E:e.val=v:=by
   have F:(k,e.val)∈l:=by rw [<- A,<- h3]; exact List.mem_map.2 ⟨e,List.mem_of_getElem? h2,rfl⟩
   exact aod B F hv
  cases ok <;> simp [Instr.lookup,run_underlying hm,Go.MapKept.run_getObj_map hb,hK.check k hk,h1,Result.andThen,E]
theorem za {mt kt et:TypeId} {K:Value->Prop} (hm:P.underlying mt=some (.map kt et)) (hK:Keyed P kt K) {w:World} {b:Nat} {l:List (Value×Value)} (h:PairsAt w b l) (hl:∀ p∈l,K p.1) {k:Value} (hk:K k) (hn:∀ p∈l,p.1≠k)
 {z:Value} (hz:∀ w,(zeroValue et).run P w=.ok z w) (ok:Bool) :
 (Instr.lookup mt (.map (some b)) k ok).run P w=.ok (if ok then .tuple #[z,.bool false] else z) w:=by
 obtain ⟨es,c,hb,B,A⟩:=h
 rcases hK.find k hk es.toList (abv A hl) w with ⟨h1,h2⟩ | ⟨j,e,h1,h2,h3⟩
 . cases ok <;> simp [Instr.lookup,run_underlying hm,Go.MapKept.run_getObj_map hb,hK.check k hk,h2,Result.andThen,hz]
 . exfalso
   exact hn (e.key,e.val) (A ▸ List.mem_map.2 ⟨e,List.mem_of_getElem? h2,rfl⟩) h3
theorem ut {mt kt et:TypeId} {K:Value->Prop} (hm:P.underlying mt=some (.map kt et)) (hK:Keyed P kt K) {w:World} {b:Nat} {l:List (Value×Value)} (h:PairsAt w b l) (hl:∀ p∈l,K p.1) {k:Value} (hk:K k) (hn:∀ p∈l,p.1≠k) (v:Value) :
 ∃ w',(Instr.mapUpdate mt (.map (some b)) k v).run P w=.ok () w'/\PairsAt w' b (l++[(k,v)])/\Mod (λx=>x=b) w w':=by
 obtain ⟨es,c,hb,E,A⟩:=h
 rcases hK.find k hk es.toList (abv A hl) w with ⟨h1,h2⟩ | ⟨j,e,h1,h2,h3⟩
 ·
  have B:(Instr.mapUpdate mt (.map (some b)) k v).run P w=.ok () { w with heap:=w.heap.setIfInBounds b (.map (es.push ⟨k,v,c⟩) (c+1)) }:=by
   simp [Instr.mapUpdate,run_underlying hm,Go.MapKept.run_getObj_map hb,hK.check k hk,h2,Go.MapKept.run_setObj_map _ hb,Result.andThen]
  refine ⟨_,B,⟨es.push ⟨k,v,c⟩,c+1,(heap_set hb).1,stamped_push E h1,?_⟩,⟨rfl,rfl,rfl,by simp,λr _ F=>(heap_set hb).2 r F⟩⟩;rw [Array.toList_push,List.map_append,A]; rfl
 . exfalso
   exact hn (e.key,e.val) (A ▸ List.mem_map.2 ⟨e,List.mem_of_getElem? h2,rfl⟩) h3
theorem ajd {mt kt et:TypeId} {K:Value->Prop} (hm:P.underlying mt=some (.map kt et)) (hK:Keyed P kt K) {w:World} {b:Nat} {l l1 l2:List (Value×Value)} (h:PairsAt w b l) (hl:∀ p∈l,K p.1) {k v0:Value} (hk:K k) (he:l=l1++(k,v0) :: l2) (v:Value) :
 ∃ w',(Instr.mapUpdate mt (.map (some b)) k v).run P w=.ok () w'/\PairsAt w' b (l1++(k,v) :: l2)/\Mod (λx=>x=b) w w':=by
 have F:=h.nodup;obtain ⟨es,c,hb,N,A⟩:=h
 rcases hK.find k hk es.toList (abv A hl) w with ⟨h1,h2⟩ | ⟨j,e,h1,h2,h3⟩
 ·
  exfalso;have:(k,v0)∈es.toList.map (λe=>(e.key,e.val)):=by rw [A,he]; simp
  obtain ⟨x,O,R⟩:=List.mem_map.1 this;exact h1 x O (Prod.mk.inj R).1
 ·
  have U:es[j]?=some e:=by simpa using h2
  have I:(Instr.mapUpdate mt (.map (some b)) k v).run P w=.ok () { w with heap:=w.heap.setIfInBounds b (.map (es.modify j λe=>{ e with key:=k,val:=v }) c) }:=by
   simp [Instr.mapUpdate,run_underlying hm,Go.MapKept.run_getObj_map hb,hK.check k hk,h1,U,h3,hK.stays k hk,Go.MapKept.run_setObj_map _ hb,Result.andThen]
  have J:∀ E,es[j]?=some E->({ E with key:=k,val:=v }:MapEntry).key=E.key:=λE B=>by rw [U] at B; cases B; exact h3.symm
  refine ⟨_,I,⟨_,c,(heap_set hb).1,stamped_modify N _ _ (λ_ _=>rfl) (λE _ B=>J E B),?_⟩,⟨rfl,rfl,rfl,by simp,λr _ hr=>(heap_set hb).2 r hr⟩⟩;have X:l[j]?=some (k,e.val):=by rw [<- A,List.getElem?_map,h2,Option.map_some,h3]
  have M:l1.length=j:=by
   have O:l[l1.length]?=some (k,v0):=by rw [he]; simp
   have Y:(l.map (·.1))[l1.length]?=some k:=by rw [List.getElem?_map,O]; rfl
   have Z:(l.map (·.1))[j]?=some k:=by rw [List.getElem?_map,X]; rfl
   obtain ⟨p1,q1⟩:=List.getElem?_eq_some_iff.1 Y;obtain ⟨p2,q2⟩:=List.getElem?_eq_some_iff.1 Z
   rcases Nat.lt_trichotomy l1.length j with h | h | h
   . exact absurd (q1.trans q2.symm) (List.pairwise_iff_getElem.1 F _ _ p1 p2 h)
   . exact h
   . exact absurd (q2.trans q1.symm) (List.pairwise_iff_getElem.1 F _ _ p2 p1 h)
  apply List.ext_getElem?;intro i;rw [List.getElem?_map,Array.getElem?_toList,Array.getElem?_modify]
  by_cases hi:j=i
  . subst hi
    rw [if_pos rfl,U,<- M];simp
  ·
   rw [if_neg hi];have h1:(es[i]?.map λe=>(e.key,e.val))=l[i]?:=by rw [<- A,List.getElem?_map,Array.getElem?_toList]
   rw [h1,he];have am:i≠l1.length:=λe=>hi (e ▸ M.symm)
   rcases Nat.lt_or_ge i l1.length with hlt | hge
   . rw [List.getElem?_append_left hlt,List.getElem?_append_left hlt]
   . rw [List.getElem?_append_right hge,List.getElem?_append_right hge]
     obtain ⟨m,ab⟩:∃ m,i - l1.length=m+1:=⟨i - l1.length - 1,by omega⟩;rw [ab,List.getElem?_cons_succ,List.getElem?_cons_succ]
end MapG
namespace TapeW
open Go.RowKit Go.MapKept OctMath RecMath TapeMath DskW SegW MapG
def qf:List UInt8:=[116,97,112,101,45]
def Waiting (D:DiskD) (R:SegD):Prop:=∀ x∈D.waits,R.synced < R.e/\∃ i,i < R.n/\R.synced < R.b+i * R.size+R.size/\∃ f,D.find (ah R.head (R.b+i * R.size))=some f/\f.blk=x.blk
def abw (l:List (Nat×Msg)):List Value:=l.map λp=>.int .i64 (p.1:Int)
def acg (l:List (Nat×Msg)):List (Value×Value):=l.map λp=>(.int .i64 (p.1:Int),.int .i64 ((bi p.2).length:Int))
structure OwnD where
 blk:Nat
 rb:Nat
 sums:Nat
 idv:Value
 mB:Nat
 last:Int
 recs:List (Nat×Msg)
def OwnD.cells (T:OwnD):Array Value:=#[.pointer (some ⟨T.rb,0,none⟩),.pointer (some ⟨T.sums,0,none⟩),T.idv,.map (some T.mB),.int .i64 T.last]
def OwnD.foot (T:OwnD) (k:Nat):Prop:=k=T.blk\/k=T.sums\/k=T.mB\/T.idv.ownBlock=some k
structure OwnAt (base:Nat) (w:World) (T:OwnD):Prop where
 cells:w.heap[T.blk]?=some (.cells T.cells 153 (0,0))
 ids:w.ownsRow base 3 1 T.idv T.recs.length (abw T.recs)
 sizes:PairsAt w T.mB (acg T.recs)
 tabs:CrcW.Tabs w T.sums
 low:T.sums < w.heap.size/\base<=T.sums/\base<=T.blk/\base<=T.mB
 apart:T.blk≠T.sums/\T.blk≠T.mB/\T.sums≠T.mB/\∀ k,T.idv.ownBlock=some k->k≠T.blk/\k≠T.sums/\k≠T.mB
theorem OwnAt.lt {base:Nat} {w:World} {T:OwnD} (h:OwnAt base w T) {k:Nat} (hk:T.foot k):k < w.heap.size:=by
 rcases hk with hk | hk | hk | hk
 . rw [hk]; exact (Array.getElem?_eq_some_iff.1 h.cells).1
 . rw [hk]; exact h.low.1
 . rw [hk]; exact h.sizes.lt
 . rcases h.ids.2 with ⟨e,_⟩ | ⟨g,cap,cur,e,_,hg,_⟩
   . rw [e] at hk; cases hk
   . rw [e] at hk; cases hk; exact (Array.getElem?_eq_some_iff.1 hg).1
theorem OwnAt.base_le {base:Nat} {w:World} {T:OwnD} (h:OwnAt base w T) {k:Nat} (hk:T.foot k):base<=k:=by
 rcases hk with hk | hk | hk | hk
 . rw [hk]; exact h.low.2.2.1
 . rw [hk]; exact h.low.2.1
 . rw [hk]; exact h.low.2.2.2
 . exact az h.ids k hk
theorem aah {M:Nat->Prop} {w w':World} {B:Nat} (h:CrcW.Tabs w B) (hB:B < w.heap.size) (hm:Mod M w w') (hM:¬ M B):CrcW.Tabs w' B :=
 λk j hk A=>by rw [hm.cell (by simpa using hB) (by simpa using hM)]; exact h k j hk A
theorem OwnAt.mod {base:Nat} {w w':World} {T:OwnD} {M:Nat->Prop} (h:OwnAt base w T) (hm:Mod M w w') (hM:∀ k,T.foot k->¬ M k):OwnAt base w' T :=
 { h with
  cells:=(hm.block _ (h.lt (.inl rfl)) (hM _ (.inl rfl))).trans h.cells
  ids:=SegW.ownsRow_mod h.ids hm (λk hk=>hM k (.inr (.inr (.inr hk))))
  sizes:=h.sizes.mod hm (hM _ (.inr (.inr (.inl rfl))))
  tabs:=aah h.tabs h.low.1 hm (hM _ (.inr (.inl rfl)))
  low:=⟨Nat.lt_of_lt_of_le h.low.1 hm.size,h.low.2⟩ }
theorem OwnAt.below {base:Nat} {w w':World} {T:OwnD} (h:OwnAt base w T) (hb:Below w.heap.size w w'):OwnAt base w' T :=
 h.mod (M:=λ_=>False) (Mod.of_below hb) (λ_ _ h=>h)
theorem OwnAt.cell {base:Nat} {w:World} {T:OwnD} (h:OwnAt base w T) (k:Nat) (v:Value) (hv:T.cells[k]?=some v):w.cell? ⟨T.blk,k,Option.none⟩=some v:=by
 unfold World.cell?; rw [show w.heap[(⟨T.blk,k,Option.none⟩:Addr).block]?=_ from h.cells]; simpa using hv
structure TapeD where
 O:OwnD
 D:DiskD
 R:SegD
 its:List TapeMath.Item
def TapeD.foot (T:TapeD) (k:Nat):Prop:=T.O.foot k\/T.D.foot k\/T.R.foot k
structure TapeAt (base:Nat) (w:World) (T:TapeD):Prop where
 own:OwnAt base w T.O
 rb:T.O.rb=T.R.blk
 recs:T.O.recs=gz T.R.b T.its
 away:∀ k,T.O.foot k->¬ T.D.foot k/\¬ T.R.foot k
 whole:Whole base w T.D T.R
 head:T.R.head=qf
 size:T.R.size=1024
 txt:T.R.txt=gq T.its
 fits:Fits T.R.b T.its
 last:∀ p,T.O.recs.getLast?=some p->T.O.last=p.2.born
 wait:Waiting T.D T.R
theorem TapeAt.lt {base:Nat} {w:World} {T:TapeD} (h:TapeAt base w T) {k:Nat} (hk:T.foot k):k < w.heap.size:=by
 rcases hk with hk | hk | hk
 . exact h.own.lt hk
 . exact h.whole.dsk.lt hk
 . exact h.whole.seg.lt hk
theorem TapeAt.base_le {base:Nat} {w:World} {T:TapeD} (h:TapeAt base w T) {k:Nat} (hk:T.foot k):base<=k:=by
 rcases hk with hk | hk | hk
 . exact h.own.base_le hk
 . exact h.whole.dsk.base_le hk
 . rcases hk with hk | hk
   . rw [hk]; exact h.whole.seg.above
   . exact az h.whole.seg.row k hk
theorem TapeAt.mod {base:Nat} {w w':World} {T:TapeD} {M:Nat->Prop} (h:TapeAt base w T) (hm:Mod M w w') (hM:∀ k,T.foot k->¬ M k):TapeAt base w' T :=
 { h with
  own:=h.own.mod hm (λk hk=>hM k (.inl hk))
  whole:=h.whole.mod hm (λk hk=>hM k (.inr (.inl hk))) (λk hk=>hM k (.inr (.inr hk))) }
theorem TapeAt.below {base:Nat} {w w':World} {T:TapeD} (h:TapeAt base w T) (hb:Below w.heap.size w w'):TapeAt base w' T :=
 h.mod (M:=λ_=>False) (Mod.of_below hb) (λ_ _ h=>h)
theorem akk {base:Nat} {w:World} {R:SegD} (h:SegAt base w R) (hs:R.size=1024):R.room=jd R.e:=by
 have A:=h.mult;rw [hs] at A;unfold SegD.room jd SegD.e;rw [hs]
 rcases Nat.eq_zero_or_pos R.n with h0 | hp
 . rw [if_neg (by omega),(h.empty h0).2,(h.empty h0).1]; rfl
 . obtain ⟨l1,l2,B⟩:=h.long hp
   rw [hs] at l1 l2
   split <;> omega
theorem room_le (e:Nat):1<=jd e/\jd e<=1024:=by unfold jd; omega
theorem Waiting.app {base:Nat} {w w':World} {D D':DiskD} {R R':SegD} {s:List UInt8} (h:Waiting D R) (hR:SegAt base w R) (hR':SegAt base w' R') (ha:AppOk D D' R R' s) (h0:s≠[]) (he:R'={ R with n:=R'.n,pv:=R'.pv,txt:=R.txt++s }) (hp:0 < R'.n):Waiting D' R':=by
 have J:R'.synced=R.synced:=by rw [he]
 have B:R'.b=R.b:=by rw [he]
 have E:R'.size=R.size:=by rw [he]
 have M:R'.head=R.head:=by rw [he]
 have I:R'.txt=R.txt++s:=by rw [he]
 have N:0 < s.length:=List.length_pos_iff.2 h0;have O:R'.e=R.e+s.length:=by unfold SegD.e; rw [B,I,List.length_append]; omega
 have U:=hR.syn;obtain ⟨l1,l2,Z⟩:=hR'.long hp
 have X:R.n<=R'.n:=by
  rcases Nat.lt_or_ge R'.n R.n with hlt | hge
  ·
   exfalso;obtain ⟨k1,k2,k3⟩:=hR.long (by omega);have:R'.n * R.size<=(R.n - 1) * R.size:=Nat.mul_le_mul_right _ (by omega);rw [I,List.length_append,E] at l2;omega
  . exact hge
 obtain ⟨f,o,F,Y⟩:=ha.waits;intro x A;rw [Y] at A;rw [J,B,E,M,O];refine ⟨by omega,?_⟩
 rcases List.mem_append.1 A with A | A
 . obtain ⟨g1,i,g2,g3,f0,g4,g5⟩:=h x A
   obtain ⟨f1,g6,g7,_⟩:=ha.blks _ _ g4;exact ⟨i,by omega,g3,f1,g6,g7.trans g5⟩
 ·
  rw [List.mem_singleton] at A;subst A;refine ⟨R'.n - 1,by omega,?_,f,?_,rfl⟩
  ·
   have h1:=xz (s:=R.size) hp;have:R'.e=R'.b+R'.txt.length:=rfl;rw [E] at l2;rw [B] at this;omega
  . unfold SegD.lastP at F
    rw [B,E] at F;exact F
theorem Waiting.none {D:DiskD} {R:SegD} (h:D.waits=[]):Waiting D R:=λx A=>by rw [h] at A; cases A
theorem Waiting.sync {base:Nat} {w:World} {D:DiskD} {R:SegD} (h:Waiting D R) (hR:SegAt base w R) (hD:DiskAt base w D) (wv:Value):(R.syncD D wv).waits=[]:=by
 unfold SegD.syncD
 by_cases hn:R.syncL=[]
 ·
  rw [if_pos hn];have F:=(afg hR).1 hn
  cases hw:D.waits with
  | nil=>rfl
  | cons x l =>
    have:=(h x (by rw [hw]; exact .head _)).1;omega
 ·
  rw [if_neg hn];unfold DiskD.lasts;simp only;rw [List.filter_eq_nil_iff];intro x E;obtain ⟨g1,i,g2,g3,f,g4,g5⟩:=h x E;simp only [Bool.not_eq_true,Bool.not_eq_false',Bool.not_eq_eq_eq_not,Bool.not_true,Bool.not_false];have A:=nz g4
  have B:ah R.head (R.b+i * R.size)∈R.syncL:=by
   unfold SegD.syncL SegD.syncK;rw [if_pos g1];exact List.mem_map.2 ⟨i,List.mem_filter.2 ⟨List.mem_range.2 g2,decide_eq_true g3⟩,rfl⟩
  have:D.files.any (λp=>decide (p.1∈R.syncL) && decide (x.blk=p.2.blk))=true:=List.any_eq_true.2 ⟨_,A,by rw [decide_eq_true B,decide_eq_true g5.symm]; rfl⟩;simp [this]
open RecW
theorem TapeAt.c0 {base:Nat} {w:World} {T:TapeD} (h:TapeAt base w T):w.cell? ⟨T.O.blk,0,none⟩=some (.pointer (some ⟨T.R.blk,0,none⟩)):=h.own.cell 0 _ (by rw [<- h.rb]; rfl)
theorem begin_any {base:Nat} {T:TapeD} (w:World) (h:TapeAt base w T) :
 Calls Tryz.prog 83 #[.pointer (some ⟨T.O.blk,0,none⟩)] w λe w'=>e=.returned (.int .i64 (T.R.b:Int))/\w'=w:=by
 have A:=zq (SegW.begin_any w h.whole.seg);have c0:=h.c0;clear h;go_enter Tryz.func83,Tryz.ntmps83;go_wp2_with fail;refine A.o.mono ?_;rintro e w' ⟨rfl,rfl⟩;go_wp2_with fail;go_ret;exact ⟨rfl,rfl⟩
theorem synced_any {base:Nat} {T:TapeD} (w:World) (h:TapeAt base w T) :
 Calls Tryz.prog 55 #[.pointer (some ⟨T.O.blk,0,none⟩)] w λe w'=>e=.returned (.int .i64 (T.R.synced:Int))/\w'=w:=by
 have A:=zq (SegW.synced_any w h.whole.seg);have c0:=h.c0;clear h;go_enter Tryz.func55,Tryz.ntmps55;go_wp2_with fail;refine A.o.mono ?_;rintro e w' ⟨rfl,rfl⟩;go_wp2_with fail;go_ret;exact ⟨rfl,rfl⟩
def aa2 (l:List (Nat×Msg)) (id:Int):Int:=((l.find? λp=>decide ((p.1:Int)=id)).map λp=>((bi p.2).length:Int)).getD 0
theorem keyedI:Keyed Tryz.prog 3 (IsKey (.int .i64)):=Keyed.of_isKey Tryz.underlying3
theorem aoe (l:List (Nat×Msg)):∀ p∈acg l,IsKey (.int .i64) p.1:=λp hp=>by
 obtain ⟨q,_,rfl⟩:=List.mem_map.1 hp; rfl
theorem aga {base:Nat} {w:World} {T:OwnD} (h:OwnAt base w T) (id:Int) :
 (Instr.lookup 151 (.map (some T.mB)) (.int .i64 id) false).run Tryz.prog w=.ok (.int .i64 (aa2 T.recs id)) w:=by
 have A:=Tryz.underlying151;unfold aa2
 cases hf:T.recs.find? (λp=>decide ((p.1:Int)=id)) with
 | none =>
   have B:=List.find?_eq_none.1 hf
   exact za A keyedI h.sizes (aoe _) (k:=.int .i64 id) rfl (λp hp=>by
    obtain ⟨q,E,rfl⟩:=List.mem_map.1 hp;intro e;exact B q E (by simpa using e)) (z:=.int .i64 0) (λw=>by kernel_rfl) false
 | some q =>
   obtain ⟨h1,a,b,F,I⟩:=List.find?_eq_some_iff_append.1 hf;exact yz A keyedI h.sizes (aoe _) (k:=.int .i64 id) (v:=.int .i64 ((bi q.2).length:Int)) rfl (List.mem_map.2 ⟨q,by rw [F]; simp,by rw [show ((q.1:Int))=id by simpa using h1]⟩) false
theorem size_any {base:Nat} {T:OwnD} (id:Int) (w:World) (h:OwnAt base w T) :
 Calls Tryz.prog 57 #[.pointer (some ⟨T.blk,0,none⟩),.int .i64 id] w λe w'=>e=.returned (.int .i64 (aa2 T.recs id))/\w'=w:=by
 have A:=aga h id;have c3:w.cell? ⟨T.blk,3,none⟩=some (.map (some T.mB)):=h.cell 3 _ rfl;clear h;generalize aa2 T.recs id=z at *
 go_enter Tryz.func57,Tryz.ntmps57;go_wp2_with fail;go_ret;exact ⟨rfl,rfl⟩
theorem aqr {w:World} {l:List (Nat×Msg)} {mB:Nat} (h:PairsAt w mB (acg l)) (id:Nat) (m:Msg) (hn:∀ p∈l,p.1≠id) :
 ∃ w',(Instr.mapUpdate 151 (.map (some mB)) (.int .i64 (id:Int)) (.int .i64 ((bi m).length:Int))).run Tryz.prog w=.ok () w'/\PairsAt w' mB (acg (l++[(id,m)]))/\Mod (λk=>k=mB) w w':=by
 obtain ⟨w',h1,A,B⟩:=ut Tryz.underlying151 keyedI h (aoe _) (k:=.int .i64 (id:Int)) rfl (λp hp=>by
  obtain ⟨q,E,rfl⟩:=List.mem_map.1 hp;intro e;have:(q.1:Int)=(id:Int):=by simpa using e
  exact hn q E (by omega)) (.int .i64 ((bi m).length:Int))
 refine ⟨w',h1,?_,B⟩;unfold acg at A ⊢;rw [List.map_append]; exact A
theorem aje {base:Nat} {w:World} {v:Value} {n:Nat} {xs:List Value} (h:w.ownsRow base 3 1 v n xs) (x:Int) (hn:n<=1073741824) (hbase:base<=w.heap.size) :
 ∃ F I,(Builtin.append_ #[50,50] 50 #[v,.slice (some ⟨w.heap.size,0,none⟩) 1 1]).run Tryz.prog (w.alloc (.cells #[.int .i64 x] 3))=.ok F I /\
  I.ownsRow base 3 1 F (n+1) (xs++[.int .i64 x])/\Mod (λk=>v.ownBlock=some k) w I/\(∃ a cp,F=.slice a (n+1) cp)/\∀ k,F.ownBlock=some k->v.ownBlock=some k\/w.heap.size<=k:=by
 have E:Below w.heap.size w (w.alloc (.cells #[.int .i64 x] 3)):=(Below.refl _ _).alloc (Nat.le_refl _) _;have N:=SegW.ownsRow_mod (M:=λ_=>False) h (Mod.of_below E) (λ_ _ h=>h)
 obtain ⟨i0,O,R,U,X⟩:∃ i,Tryz.prog.info? 3=some i/\i.zero=some (.int .i64 0)/\i.size=1/\i.bytes=8:=by
  have:=(show (Tryz.prog.info? 3).map (λi=>(i.zero,i.size,i.bytes))=some (some (.int .i64 0),1,8) by kernel_rfl)
  cases hh:Tryz.prog.info? 3 with
  | none=>rw [hh] at this; cases this
  | some i=>rw [hh] at this; have Y:=Option.some.inj this; exact ⟨i,rfl,congrArg (·.1) Y,congrArg (·.2.1) Y,congrArg (·.2.2) Y⟩
 obtain ⟨F,I,hr,B,A,_,Z⟩:=run_append_own_at (P:=Tryz.prog) _ base 50 50 3 i0 (.int .i64 0) 1 8 Tryz.underlying50 O R U X rfl (by omega) _ _ _ N
  ⟨w.heap.size,0,none⟩ 1 1 [.int .i64 x] rfl (λj u hu=>by
   have J:(⟨w.heap.size,0,none⟩:Addr).add j=⟨w.heap.size,j,none⟩:=by unfold Addr.add; split <;> simp_all
   rw [J,World.cell?_alloc_new]
   match j,hu with
   | 0,hu=>exact hu
   | j+1,hu=>cases hu) (λu hu=>by
   rw [List.mem_singleton] at hu; subst hu; rfl) (by unfold maxLen; omega) (by omega) (Nat.le_trans hbase E.size)
 have ac:(w.alloc (.cells #[.int .i64 x] 3)).heap.size=w.heap.size+1:=World.size_alloc _ _;refine ⟨F,I,hr,B,(Mod.of_below E).trans ⟨A.os,A.tape,A.output,A.size,λk hk ab=>A.block k hk (λe=>ab e.symm)⟩,lq B,λk hk=>?_⟩
 rcases Z with e | e
 . exact .inl (e ▸ hk)
 . rw [e] at hk; cases hk; right; omega
theorem wpList_append_run {P:Program} (w:World) {ops:Array Oper} {rest:List Oper} {o:Oper} {a:Act} {Q:Exit->Act->World->Prop} (hgd:o.guard=none) (s x:Operand) (t tn:TypeId)
 (ho:o.op=.call { callee:=.builtin .append,args:=#[s,x],argTypes:=#[t,tn] }) (vs vx:Value) (hs:a.eval s=vs) (hx:a.eval x=vx)
 (v':Value) (w':World) (hr:(Builtin.append_ #[t,tn] o.type #[vs,vx]).run P w=.ok v' w') (h:wpList P ops Q rest (a.put o.dst v') w'):wpList P ops Q (o :: rest) a w:=by
 refine wpList_plain hgd λK A=>?_
 unfold Oper.wp;simp [execOp,ho,resolve,invoke,builtin,hs,hx,hr,Result.andThen];exact A _ _ h
def OwnD.add (T:OwnD) (idv:Value) (id:Nat) (m:Msg):OwnD:={ T with idv:=idv,last:=m.born,recs:=T.recs++[(id,m)] }
theorem aha {base:Nat} {T:OwnD} (id:Nat) (m:Msg) (a:Option Addr) (c:Nat) (W:World) (h:OwnAt base W T) (h0:m.kind≠0) (hn:∀ p∈T.recs,p.1≠id) (hl:T.recs.length<=1048576) (hbase:base<=W.heap.size) :
 Calls Tryz.prog 117 #[.pointer (some ⟨T.blk,0,none⟩),.int .i64 (id:Int),.int .i64 ((bi m).length:Int),.agg (af m a c)] W λe w'=>e=.returned (.tuple #[]) /\
  ∃ idv,OwnAt base w' (T.add idv id m)/\Mod T.foot W w'/\∀ k,idv.ownBlock=some k->T.foot k\/W.heap.size<=k:=by
 have a6:Zq (Below W.heap.size W (W.alloc (.cells (af m a c) 71))):=(Below.refl _ W).alloc (Nat.le_refl _) _;have HX:Zq (RecW.Boxed (W.alloc (.cells (af m a c) 71)) W.heap.size (af m a c)):=RecW.Boxed.new W _ _;have a7:(W.alloc (.cells (af m a c) 71)).heap.size=W.heap.size+1:=World.size_alloc _ _;have E:=zq (h.below a6.o);have J:Zq (∀ k,T.foot k->k < W.heap.size):=λk hk=>h.lt hk
 have b9:(af m a c).size=10:=rfl;have ca:=zq hbase;clear h hbase;go_enter Tryz.func117,Tryz.ntmps117;go_upto_region 1 with fail
 generalize W.alloc (.cells (af m a c) 71)=w1 at *
 clear b9;obtain ⟨A,hA⟩:∃ A,W.heap.size=A:=⟨_,rfl⟩;rw [hA] at HX a7 ⊢;have k0:w1.cell? ⟨A,0,none⟩=some (.int .i64 m.kind):=HX.o 0 _ rfl;obtain ⟨v',O,hr,ao,R,⟨av,cv,bh⟩,bj⟩:=aje E.o.ids (id:Int) (by omega) (Nat.le_trans ca.o a6.o.size);obtain ⟨a0,cd,ab⟩:=lq E.o.ids;have B:=E.o.apart;have a8:∀ k,T.idv.ownBlock=some k->k < A:=λk hk=>by have:=J.o k (.inr (.inr (.inr hk))); omega
 have ba:∀ k,k < w1.heap.size->T.idv.ownBlock≠some k->O.heap[k]?=w1.heap[k]?:=λk hk Z=>R.block k hk Z
 have ad:O.heap[T.blk]?=some (.cells T.cells 153 (0,0)):=(ba _ (E.o.lt (.inl rfl)) (λe=>(B.2.2.2 _ e).1 rfl)).trans E.o.cells;have bk:PairsAt O T.mB (acg T.recs):=E.o.sizes.mod R (λe=>(B.2.2.2 _ e).2.2 rfl);have bl:CrcW.Tabs O T.sums:=aah E.o.tabs E.o.low.1 R (λe=>(B.2.2.2 _ e).2.1 rfl);have ak:(O.setCell ⟨T.blk,2,none⟩ v').heap[T.blk]?=some (.cells #[.pointer (some ⟨T.rb,0,none⟩),.pointer (some ⟨T.sums,0,none⟩),v',.map (some T.mB),.int .i64 T.last] 153 (0,0)):=heap_set1 ad _ rfl;have ac:Mod (λk=>k=T.blk) O (O.setCell ⟨T.blk,2,none⟩ v'):=jv _ _ _ _;have bm:=bk.mod ac (λe=>B.2.1 e.symm);obtain ⟨F,cw,ap,U⟩:=aqr bm id m hn;have bo:A < O.heap.size:=by have:=R.size; omega
 have bp:∀ (w:World),w.heap[A]?=w1.heap[A]?->RecW.Boxed w A (af m a c):=λw e i v hv=>by
  rw [World.cell?_of_block (w:=w1) e]; exact HX.o i v hv
 have br:=ba A (by omega) (λe=>by have:=a8 A e; omega);have bs:(O.setCell ⟨T.blk,2,none⟩ v').heap[A]?=O.heap[A]?:=ac.block A bo (λe=>by have:=J.o _ (.inl rfl); omega);have ar:F.heap[A]?=w1.heap[A]?:=((U.block A (by have:=ac.size; omega) (λe=>by have:=J.o _ (.inr (.inr (.inl rfl))); omega)).trans bs).trans br;have k5:F.cell? ⟨A,5,none⟩=some (.int .i64 m.born):=bp F ar 5 _ rfl;have c2:w1.cell? ⟨T.blk,2,none⟩=some (.slice a0 T.recs.length cd):=by rw [<- ab]; exact E.o.cell 2 _ rfl
 have c28:O.cell? ⟨T.blk,2,none⟩=some T.idv:=by rw [Lib.cell_of_heap ad]; rfl
 have f28:O.frozen? ⟨T.blk,2,none⟩=false:=Lib.frozen_of_heap ad 2;have cy:(O.setCell ⟨T.blk,2,none⟩ v').cell? ⟨T.blk,3,none⟩=some (.map (some T.mB)):=by rw [Lib.cell_of_heap ak]; rfl
 have X:F.heap[T.blk]?=some (.cells #[.pointer (some ⟨T.rb,0,none⟩),.pointer (some ⟨T.sums,0,none⟩),v',.map (some T.mB),.int .i64 T.last] 153 (0,0)):=(U.block _ (Array.getElem?_eq_some_iff.1 ak).1 B.2.1).trans ak;have cp:F.cell? ⟨T.blk,4,none⟩=some (.int .i64 T.last):=by rw [Lib.cell_of_heap X]; rfl
 have cq:F.frozen? ⟨T.blk,4,none⟩=false:=Lib.frozen_of_heap X 4;have ce:=zq bj;have bw:=zq ao;have cf:=zq R;have al:=zq ac;have Y:=zq U;have bz:=zq ap;have b0:=zq X;have cg:=zq bl;have ci:=zq B;have c6:=zq a8;have bb:=zq hA;have cj:=zq a7;have c7:=zq bh;have am:Zq (∀ k,T.foot k->k < O.heap.size):=λk hk=>by have h1:=J.o k hk; have h2:=R.size; omega
 rw [ab] at hr;clear ab bj ao R ac U ap ad ak X bl B a8 br bs ar bp bo ba bk bm hn hl hA a7;generalize (bi m).length=L at *
 subst bh;have HR:=zq hr;clear hr;go_wp2_with (at_builtin; refine wpList_append_run _ rfl (.tmp 15) (.tmp 17) 50 50 rfl _ _ rfl rfl _ _ HR.o ?_);go_end0;have B:=ci.o;have I:Mod (λk=>k=T.blk) F (F.setCell ⟨T.blk,4,none⟩ (.int .i64 m.born)):=jv _ _ _ _;have a1:∀ k,(Value.slice av (T.recs.length+1) cv).ownBlock=some k->(T.idv.ownBlock=some k\/A < k):=λk hk=>(ce.o k hk).imp_right λh=>by have:=cj.o; omega
 have Z:∀ k,(Value.slice av (T.recs.length+1) cv).ownBlock=some k->k≠T.blk/\k≠T.sums/\k≠T.mB:=λk hk=>by
  rcases a1 k hk with h | h
  . exact B.2.2.2 k h
  ·
   have h1:=J.o _ (.inl rfl);have h2:=J.o _ (.inr (.inl rfl));have h3:=J.o _ (.inr (.inr (.inl rfl)));have h4:=bb.o;omega
 have db:=al.o.size;have cr:=Y.o.size;have cs:=I.size;have b1:Mod T.foot w1 O:=cf.o.mono (λk _ hk=>.inr (.inr (.inr hk)));have b2:=al.o.mono (N:=T.foot) (λk _ hk=>.inl hk);have bc:=Y.o.mono (N:=T.foot) (λk _ hk=>.inr (.inr (.inl hk)));have an:=I.mono (N:=T.foot) (λk _ hk=>.inl hk);have hm:Mod T.foot W (F.setCell ⟨T.blk,4,none⟩ (.int .i64 m.born)):=((((Mod.of_below (M:=T.foot) (bb.o ▸ a6.o)).trans b1).trans b2).trans bc).trans an;have ck:=SegW.ownsRow_mod bw.o al.o (λk hk e=>(Z k hk).1 e);have b3:=SegW.ownsRow_mod ck Y.o (λk hk e=>(Z k hk).2.2 e);have b4:=SegW.ownsRow_mod b3 I (λk hk e=>(Z k hk).1 e);have cm:=aah cg.o (am.o _ (.inr (.inl rfl))) al.o (λe=>B.1 e.symm);have b5:=aah cm (by have:=am.o _ (.inr (.inl rfl)); omega) Y.o (λe=>B.2.2.1 e);have b6:=aah b5 (by have:=am.o _ (.inr (.inl rfl)); omega) I (λe=>B.1 e.symm);have b7:=E.o.low;refine ⟨rfl,_,⟨heap_set1 b0.o _ rfl,?_,bz.o.mod I (λe=>B.2.1 e.symm),b6,⟨by have:=am.o _ (.inr (.inl rfl)); show T.sums < _; omega,b7.2⟩,B.1,B.2.1,B.2.2.1,Z⟩,hm,λk hk=>?_⟩
 ·
  show World.ownsRow _ base _ 1 _ (T.recs++[(id,m)]).length (abw (T.recs++[(id,m)]));unfold abw;rw [List.length_append,List.map_append];exact b4
 . rcases a1 k hk with h | h
   . exact .inl (.inr (.inr (.inr h)))
   . right; have:=bb.o; omega
end TapeW
end Go.Proofs.YtckjigopecocaaaGreatDoor
