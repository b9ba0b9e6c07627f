/- The enqueuer finds nothing to do where no record is scheduled. And what follows. -/
import Derived.Test.YtcgonejkkpbepaaGreatDoorR06
set_option linter.unusedVariables false
set_option linter.unusedSimpArgs false
set_option maxHeartbeats 25600000
set_option maxRecDepth 100000
namespace Go.Proofs.YtcgonejkkpbepaaGreatDoor
namespace StoW
open Go.RowKit Go.MapKept OctMath RecMath RecW TapeMath DskW SegW MapG TapeW PendW
theorem als (p:Int):jr [] p=(0,false):=rfl
theorem agv (x:Nat×Msg) (l:List (Nat×Msg)) (p:Int) (h:(x.1:Int) < p):jr (x :: l) p=jr l p:=by
 unfold jr TapeW.placeL idI;rw [List.map_cons,List.countP_cons_of_pos (by simpa using h),List.drop_succ_cons]
theorem adr (x:Nat×Msg) (l:List (Nat×Msg)) (p:Int) (h:p<=(x.1:Int)) (hs:((x :: l).map (·.1)).Pairwise (· < ·)):jr (x :: l) p=((x.1:Int),true):=by
 have:TapeW.placeL (x :: l) p=0:=by
  unfold TapeW.placeL idI;rw [List.countP_eq_zero];intro i B;obtain ⟨y,A,rfl⟩:=List.mem_map.1 B
  have:x.1<=y.1:=by
   rcases List.mem_cons.1 A with rfl | A
   . exact Nat.le_refl _
   . rw [List.map_cons,List.pairwise_cons] at hs
     exact Nat.le_of_lt (hs.1 y.1 (List.mem_map.2 ⟨y,A,rfl⟩))
  simp; omega
 unfold jr;rw [this]; rfl
theorem ads (p:Int):∀ l:List (Nat×Msg),(l.map (·.1)).Pairwise (· < ·)->(jr l p).2=true->∃ id m,(id,m)∈l/\jr l p=((id:Int),true)/\p<=(id:Int)
 | [],_,h=>by rw [als] at h; cases h
 | x :: l,hs,h=>by
   by_cases hx:(x.1:Int) < p
   . rw [agv x l p hx] at h ⊢
     rw [List.map_cons,List.pairwise_cons] at hs;obtain ⟨id,m,h1,A,B⟩:=ads p l hs.2 h;exact ⟨id,m,List.mem_cons_of_mem _ h1,A,B⟩
   . exact ⟨x.1,x.2,List.mem_cons_self ..,adr x l p (by omega) hs,by omega⟩
theorem ai3 {base B:Nat} {T:TapeD} (q x:Value) (cs4:Value) (d e0:Int) (W:World) (h0r:T.O.recs=[]) (h:TapeAt base W T) (hT:TabB base W) (hbase:base<=W.heap.size) (hup:T.D.down=false)
 (hB:W.heap[B]?=some (.cells #[.pointer (some ⟨T.O.blk,0,none⟩),q,x,.int .i64 e0,cs4] 253 (0,0))) (hl:T.O.recs.length<=1073741824) (hk:∀ p∈T.O.recs,p.2.kind≠2) (hd:0<=d/\d<=200000000) :
 Calls Tryz.prog 213 #[.pointer (some ⟨B,0,none⟩),.int .i64 d] W λe w'=>e=.returned (.tuple #[.int .i64 0,.agg #[.int .i64 0,.int .i64 0,.int .i64 0,.int .i64 0,.int .i64 0,.int .i64 0,.string ⟨#[]⟩,.string ⟨#[]⟩,.string ⟨#[]⟩,.slice none 0 0],.bool false])/\Below W.heap.size W w':=by
 have ak:=zq h0r;clear h0r;have U:=(Array.getElem?_eq_some_iff.1 hB).1;have J:(T.O.recs.map (·.1)).Pairwise (· < ·):=by rw [h.recs]; exact (ku h.fits).2
 have al:=zq (λp=>ads p T.O.recs J);have am:Zq (∀ p w,Below W.heap.size W w->Calls Tryz.prog 30 #[.pointer (some ⟨T.O.blk,0,none⟩),.int .i64 p] w λe w'=>e=.returned (.tuple #[.int .i64 (jr T.O.recs p).1,.bool (jr T.O.recs p).2])/\Drawn w w'):=λp w hb=>next_any p w (h.own.below hb) J hl
 have ba:Zq (∀ w,Below W.heap.size W w->Calls Tryz.prog 32 #[.pointer (some ⟨T.O.blk,0,none⟩)] w λe w'=>e=.returned (.int .i64 (T.R.synced:Int))/\w'=w):=λw hb=>TapeW.synced_any w (h.below hb)
 have bb:Zq (∀ id m w,(id,m)∈T.O.recs->Below W.heap.size W w->Calls Tryz.prog 18 #[.pointer (some ⟨T.O.blk,0,none⟩),.int .i64 (id:Int)] w λe w'=>∃ a c,e=.returned (.tuple #[.agg (ae m a c),.int .i64 0])/\Below w.heap.size w w'):=λid m w M hb =>
  (aaa id m w (h.below hb) hup (hT.below hb) (Nat.le_trans hbase hb.size) M).mono λe w' ⟨a,c,h5,h6,h7,h8⟩=>⟨a,c,h5,h7⟩
 have bh:Zq (∀ id m w,(id,m)∈T.O.recs->Below W.heap.size W w->Calls Tryz.prog 34 #[.pointer (some ⟨T.O.blk,0,none⟩),.int .i64 (id:Int)] w λe w'=>e=.returned (.int .i64 ((bg m).length:Int))/\w'=w):=λid m w M hb=>by
  have:=size_any (id:Int) w (h.own.below hb);rw [ado (aat h) M] at this;exact this
 have bj:Zq (∀ id m,(id,m)∈T.O.recs->1<=(bg m).length/\(bg m).length<=1024/\id<=100004095):=λid m M=>by
  obtain ⟨a1,a2,a3,a4,a5,a6⟩:=zh h M;have:=abe m;have:=h.whole.seg.e_le;omega
 have HB:Zq (∀ w,Below W.heap.size W w->w.cell? ⟨B,0,none⟩=some (.pointer (some ⟨T.O.blk,0,none⟩))):=λw hb=>aa ((hb.block B U).trans hB) 0 _ rfl
 have HK:=zq hk;have X:Zq (Below W.heap.size W (W.alloc (.cells #[.int .i64 0,.int .i64 0,.int .i64 0,.int .i64 0,.int .i64 0,.int .i64 0,.string ⟨#[]⟩,.string ⟨#[]⟩,.string ⟨#[]⟩,.slice none 0 0] 69))):=(Below.refl _ W).alloc (Nat.le_refl _) _;have Y:Zq ((W.alloc (.cells #[.int .i64 0,.int .i64 0,.int .i64 0,.int .i64 0,.int .i64 0,.int .i64 0,.string ⟨#[]⟩,.string ⟨#[]⟩,.string ⟨#[]⟩,.slice none 0 0] 69)).heap[W.heap.size]?=some (.cells #[.int .i64 0,.int .i64 0,.int .i64 0,.int .i64 0,.int .i64 0,.int .i64 0,.string ⟨#[]⟩,.string ⟨#[]⟩,.string ⟨#[]⟩,.slice none 0 0] 69 (0,0))):=heap_alloc_new W _;have Z:Zq ((W.alloc (.cells #[.int .i64 0,.int .i64 0,.int .i64 0,.int .i64 0,.int .i64 0,.int .i64 0,.string ⟨#[]⟩,.string ⟨#[]⟩,.string ⟨#[]⟩,.slice none 0 0] 69)).heap.size=W.heap.size+1):=by exact Array.size_push _
 generalize T.O.recs=recs at *
 generalize T.R.synced=sy at *
 generalize T.O.blk=tb at *
 clear h hT hbase hup hB hl hk J U;go_enter Tryz.func213,Tryz.ntmps213;go_wp2_with fail;generalize W.alloc (.cells #[.int .i64 0,.int .i64 0,.int .i64 0,.int .i64 0,.int .i64 0,.int .i64 0,.string ⟨#[]⟩,.string ⟨#[]⟩,.string ⟨#[]⟩,.slice none 0 0] 69)=w1 at *
 obtain ⟨A,hA⟩:∃ A,W.heap.size=A:=⟨_,rfl⟩;have ab:=zq hA;rw [hA] at Y Z;clear hA;rw [ab.o];go_loopw [1] (λi wr=>∃ p:Int,0<=p/\p<=200000000/\i=.int .i64 p/\Zq (Below w1.heap.size w1 wr)) (λi _=>sy - (intOf i).toNat)
 case atStart=>exact ⟨d,hd.1,hd.2,rfl,Below.refl _ _⟩
 case round =>
  obtain ⟨p,bl,bm,rfl,HR⟩:=hrel;have hb:Below W.heap.size W wr:=X.o.trans (HR.o.mono X.o.size);have c0:=HB.o wr hb;have HN:=zq (am.o p wr hb);have ao:=zq hb;have I:=zq (al.o p);clear hb
  cases hok:(jr recs p).2 with
  | false =>
    rw [hok] at HN;have ap:Zq (wr.heap[A]?=some (.cells #[.int .i64 0,.int .i64 0,.int .i64 0,.int .i64 0,.int .i64 0,.int .i64 0,.string ⟨#[]⟩,.string ⟨#[]⟩,.string ⟨#[]⟩,.slice none 0 0] 69 (0,0))):=(HR.o.block A (by have:=Z.o; omega)).trans Y.o;clear I hok;generalize (jr recs p).1=np at *
    go_wp2_with fail;refine HN.o.mono ?_;rintro e w2 ⟨rfl,N⟩;have ac:Zq (Below W.heap.size W w2):=ao.o.trans (N.below _);have E:w2.heap[A]?=some (.cells #[.int .i64 0,.int .i64 0,.int .i64 0,.int .i64 0,.int .i64 0,.int .i64 0,.string ⟨#[]⟩,.string ⟨#[]⟩,.string ⟨#[]⟩,.slice none 0 0] 69 (0,0)):=ai2 N ap.o;have bo:=zq E;have HH:=zq (mi rfl E (.int .i64 0) (.int .i64 0) (.int .i64 0) (.int .i64 0) (.int .i64 0) (.int .i64 0) (.string ⟨#[]⟩) (.string ⟨#[]⟩) (.string ⟨#[]⟩) (.slice none 0 0));have ar:=zq (oz w2 A (.int .i64 0) (.int .i64 0) (.int .i64 0) (.int .i64 0) (.int .i64 0) (.int .i64 0) (.string ⟨#[]⟩) (.string ⟨#[]⟩) (.string ⟨#[]⟩) (.slice none 0 0));clear N HN c0;have y0:=aa E 0 _ rfl;have z0:=aj E 0;have y1:=aa E 1 _ rfl;have z1:=aj E 1;have y2:=aa E 2 _ rfl;have z2:=aj E 2;have y3:=aa E 3 _ rfl;have z3:=aj E 3;have y4:=aa E 4 _ rfl;have z4:=aj E 4;have y5:=aa E 5 _ rfl;have z5:=aj E 5;have y6:=aa E 6 _ rfl;have z6:=aj E 6;have y7:=aa E 7 _ rfl;have z7:=aj E 7;have y8:=aa E 8 _ rfl;have z8:=aj E 8;have y9:=aa E 9 _ rfl;have z9:=aj E 9;clear E;go_wp2_with fail;clear y0 y1 y2 y3 y4 y5 y6 y7 y8 y9 z0 z1 z2 z3 z4 z5 z6 z7 z8 z9;change bodyPost _ _ _ _ _ (yh w2 A (.int .i64 0) (.int .i64 0) (.int .i64 0) (.int .i64 0) (.int .i64 0) (.int .i64 0) (.string ⟨#[]⟩) (.string ⟨#[]⟩) (.string ⟨#[]⟩) (.slice none 0 0));generalize yh w2 A (.int .i64 0) (.int .i64 0) (.int .i64 0) (.int .i64 0) (.int .i64 0) (.int .i64 0) (.string ⟨#[]⟩) (.string ⟨#[]⟩) (.string ⟨#[]⟩) (.slice none 0 0)=w9 at *
    have F:=HH.o;have c0:=aa F 0 _ rfl;have c1:=aa F 1 _ rfl;have c2:=aa F 2 _ rfl;have c3:=aa F 3 _ rfl;have c4:=aa F 4 _ rfl;have c5:=aa F 5 _ rfl;have c6:=aa F 6 _ rfl;have c7:=aa F 7 _ rfl;have c8:=aa F 8 _ rfl;have c9:=aa F 9 _ rfl;have av:Below W.heap.size W w9:=ac.o.trans (ar.o.to_below _ ac.o.size (λk e=>by rw [e,ab.o]; exact Nat.le_refl _));refine bodyPost_ret (v:=.tuple #[.int .i64 0,.agg #[.int .i64 0,.int .i64 0,.int .i64 0,.int .i64 0,.int .i64 0,.int .i64 0,.string ⟨#[]⟩,.string ⟨#[]⟩,.string ⟨#[]⟩,.slice none 0 0],.bool false]) ?_ rfl ⟨rfl,av⟩;clear F;simp [results,Tryz.results213,go_sem,c0,c1,c2,c3,c4,c5,c6,c7,c8,c9]
  | true =>
    obtain ⟨id,m,M,a7,ca⟩:=I.o hok;rw [a7] at HN;exact absurd M (by rw [ak.o]; exact List.not_mem_nil)
theorem ai4 {base B:Nat} {T:TapeD} (q x:Value) (cs4:Value) (d:Int) (W:World) (h0r:T.O.recs=[]) (h:TapeAt base W T) (hT:TabB base W) (hbase:base<=W.heap.size) (hup:T.D.down=false)
 (hB:W.heap[B]?=some (.cells #[.pointer (some ⟨T.O.blk,0,none⟩),q,x,.int .i64 d,cs4] 253 (0,0))) (hl:T.O.recs.length<=1073741824) (hk:∀ p∈T.O.recs,p.2.kind≠2) (hd:0<=d/\d<=200000000) :
 Calls Tryz.prog 157 #[.pointer (some ⟨B,0,none⟩)] W λe w'=>e=.returned (.tuple #[.bool false,.int .i64 0])/\Below W.heap.size W w':=by
 have A:=zq (ai3 q x cs4 d d W h0r h hT hbase hup hB hl hk hd);have c3:=aa hB 3 _ rfl;clear h0r h hT hbase hup hB hl hk;go_enter Tryz.func157,Tryz.ntmps157;go_wp2_with fail;refine A.o.mono ?_;rintro e w2 ⟨rfl,hb⟩;have E:Zq (Below W.heap.size W (w2.alloc (.cells #[.int .i64 0,.int .i64 0,.int .i64 0,.int .i64 0,.int .i64 0,.int .i64 0,.string ⟨#[]⟩,.string ⟨#[]⟩,.string ⟨#[]⟩,.slice none 0 0] 69))):=hb.alloc hb.size _;clear hb A c3;go_wp2_with fail;go_ret2;exact ⟨rfl,E.o⟩
theorem alu {base B:Nat} {T:TapeD} (q x:Value) (cs4:Value) (d:Int) (W:World) (h0r:T.O.recs=[]) (h:TapeAt base W T) (hT:TabB base W) (hbase:base<=W.heap.size) (hup:T.D.down=false)
 (hB:W.heap[B]?=some (.cells #[.pointer (some ⟨T.O.blk,0,none⟩),q,x,.int .i64 d,cs4] 253 (0,0))) (hl:T.O.recs.length<=1073741824) (hk:∀ p∈T.O.recs,p.2.kind≠2) (hd:0<=d/\d<=200000000) :
 Calls Tryz.prog 95 #[.pointer (some ⟨B,0,none⟩)] W λe w'=>e=.returned (.tuple #[.int .i64 0,.int .i64 0])/\Below W.heap.size W w' :=
 an2 (Q:=λw=>Below W.heap.size W w) 0 (by omega) W (ai4 q x cs4 d W h0r h hT hbase hup hB hl hk hd)
theorem alv {base B:Nat} {T:OwnD} {q x:Value} {d:Int} (W:World) (h:OwnAt base W T) (hB:W.heap[B]?=some (.cells #[.pointer (some ⟨T.blk,0,none⟩),q,x,.int .i64 d] 91 (0,0))) (hs:(T.recs.map (·.1)).Pairwise (· < ·)) (hl:T.recs.length<=1073741824) (hn:(jr T.recs d).2=false) :
 Calls Tryz.prog 94 #[.pointer (some ⟨B,0,none⟩)] W λe w'=>e=.returned (.tuple #[.int .i64 0,.int .i64 0])/\Drawn W w' :=
 an1 (Q:=λw=>Drawn W w) 0 (by omega) W (adq W h hB hs hl hn)
end StoW
namespace TopW
open Go.RowKit OctMath DskW
theorem ab1 {base:Nat} {D:DiskD} (nm:List UInt8) (w:World) (h:DiskAt base w D) (hup:D.down=false) (hn:D.find nm=none) :
 Calls Tryz.prog 152 #[.pointer (some ⟨D.blk,0,none⟩),.string (S nm)] w λe w'=>e=.returned (.tuple #[.string (S []),.bool false,.int .i64 0])/\Below w.heap.size w w':=by
 have B:=zq (ajx nm w h);have hb:D.bars [nm]=9:=by rw [rz,hup,hn]; rfl
 have F:D.allT nm=[]:=by unfold DiskD.allT; rw [hb]; rfl
 rw [hb,F] at B;have I:S []=⟨#[]⟩:=rfl;clear h hup hn hb F;go_enter Tryz.func152,Tryz.ntmps152;go_wp2_with fail;refine B.o.mono ?_;rintro e w1 ⟨rfl,A⟩;have E:=zq A;clear A B;go_wp2_with fail;go_ret3;exact ⟨rfl,E.o⟩
def jg:List UInt8:=[116,111,112,105,99,115]
def acs:List UInt8:=[103,114,111,117,112,115]
def agw:List UInt8:=[98,97,115,101]
theorem agx {base:Nat} {D:DiskD} (w:World) (h:DiskAt base w D) (hup:D.down=false) (hn:D.find jg=none) :
 Calls Tryz.prog 84 #[.pointer (some ⟨D.blk,0,none⟩)] w λe w'=>∃ b,e=.returned (.tuple #[.pointer (some ⟨b,0,none⟩),.int .i64 0])/\Below w.heap.size w w'/\w.heap.size<=b/\w'.heap[b]?=some (.cells #[.pointer (some ⟨D.blk,0,none⟩),.slice none 0 0] 113 (0,0)):=by
 have E:=zq (ab1 jg w h hup hn);clear h hup hn;go_enter Tryz.func84,Tryz.ntmps84;go_wp2_with fail;refine E.o.mono ?_;rintro e w1 ⟨rfl,B⟩;have A:=zq B;clear B E;go_wp2_with fail;go_ret2;exact ⟨w1.heap.size,rfl,A.o.alloc A.o.size _,A.o.size,heap_alloc_new w1 _⟩
theorem agy {base:Nat} {D:DiskD} (w:World) (h:DiskAt base w D) (hup:D.down=false) (hn:D.find acs=none) :
 Calls Tryz.prog 85 #[.pointer (some ⟨D.blk,0,none⟩)] w λe w'=>∃ b,e=.returned (.tuple #[.pointer (some ⟨b,0,none⟩),.int .i64 0])/\Below w.heap.size w w'/\w.heap.size<=b/\w'.heap[b]?=some (.cells #[.pointer (some ⟨D.blk,0,none⟩),.slice none 0 0] 243 (0,0)):=by
 have E:=zq (ab1 acs w h hup hn);clear h hup hn;go_enter Tryz.func85,Tryz.ntmps85;go_wp2_with fail;refine E.o.mono ?_;rintro e w1 ⟨rfl,B⟩;have A:=zq B;clear B E;go_wp2_with fail;go_ret2;exact ⟨w1.heap.size,rfl,A.o.alloc A.o.size _,A.o.size,heap_alloc_new w1 _⟩
theorem acf {base:Nat} {D:DiskD} (w:World) (h:DiskAt base w D) (hup:D.down=false) (hn:D.find agw=none) :
 Calls Tryz.prog 86 #[.pointer (some ⟨D.blk,0,none⟩)] w λe w'=>e=.returned (.tuple #[.agg #[.int .i64 0,.slice none 0 0],.bool false,.int .i64 0])/\Below w.heap.size w w':=by
 have E:=zq (λ(w2:World) (hb:Below w.heap.size w w2)=>ab1 agw w2 (h.below hb) hup hn);clear h hup hn;go_enter Tryz.func86,Tryz.ntmps86;go_wp2_with fail;refine (E.o _ ((Below.refl _ _).alloc (Nat.le_refl _) _)).mono ?_;rintro e w1 ⟨rfl,A⟩
 have g:w1.heap[w.heap.size]?=some (.cells #[.int .i64 0,.slice none 0 0] 127 (0,0)):=by
  have h1:=A.block w.heap.size (by rw [World.size_alloc]; omega);rw [h1]; exact heap_alloc_new w _
 have B:=zq (((Below.refl w.heap.size w).alloc (Nat.le_refl _) (.cells #[.int .i64 0,.slice none 0 0] 127)).trans (A.mono (by rw [World.size_alloc]; omega)));have a0:w1.cell? ⟨w.heap.size,0,none⟩=some (.int .i64 0):=by rw [Lib.cell_of_heap g]; rfl
 have F:w1.cell? ⟨w.heap.size,1,none⟩=some (.slice none 0 0):=by rw [Lib.cell_of_heap g]; rfl
 have b0:w1.frozen? ⟨w.heap.size,0,none⟩=false:=Lib.frozen_of_heap g 0;have I:w1.frozen? ⟨w.heap.size,1,none⟩=false:=Lib.frozen_of_heap g 1;clear A E;go_wp2_with fail;refine bodyPost_ret (v:=.tuple #[.agg #[.int .i64 0,.slice none 0 0],.bool false,.int .i64 0]) ?_ rfl ⟨rfl,?_⟩
 . simp [results,Tryz.results86,go_sem,a0,F]
 . exact (B.o.setCell (p:=⟨w.heap.size,0,none⟩) (Nat.le_refl _) _).setCell (p:=⟨w.heap.size,1,none⟩) (Nat.le_refl _) _
end TopW
namespace CacheW
open Go.RowKit OctMath DskW SegW
structure Grows (D D':DiskD) (ns:List (List UInt8)) (sz wt:Nat):Prop where
 quiet:Quiet D'
 blk:D'.blk=D.blk
 cap:D'.cap=D.cap
 names:D'.files.map (·.1)=D.files.map (·.1)++ns
 size:D'.size=D.size+sz
 waits:D'.waits.length=D.waits.length+wt
theorem Grows.trans {D D1 D2:DiskD} {a b:List (List UInt8)} {s t m n:Nat} (h:Grows D D1 a s m) (k:Grows D1 D2 b t n):Grows D D2 (a++b) (s+t) (m+n) :=
 ⟨k.quiet,k.blk.trans h.blk,k.cap.trans h.cap,by rw [k.names,h.names,List.append_assoc],by rw [k.size,h.size,Nat.add_assoc],by rw [k.waits,h.waits,Nat.add_assoc]⟩
theorem Grows.refl {D:DiskD} (h:Quiet D):Grows D D [] 0 0:=⟨h,rfl,rfl,by rw [List.append_nil],rfl,rfl⟩
theorem Grows.room {D D':DiskD} {a:List (List UInt8)} {s n:Nat} (h:Grows D D' a s n):D'.room=D.room - (s:Int):=by
 unfold DiskD.room; rw [h.cap,h.size]; omega
theorem vw {D:DiskD} {n:List UInt8}:D.find n=none↔n∉D.files.map (·.1):=by
 rw [<- yz]
 cases D.find n <;> simp
theorem abf {base:Nat} {D:DiskD} (n:List UInt8) (w:World) (h:DiskAt base w D) (hq:Quiet D) (hn:n∉D.files.map (·.1)) (hbase:base<=w.heap.size) :
 Calls Tryz.prog 155 #[.pointer (some ⟨D.blk,0,none⟩),.string (S n)] w λe w'=>e=.returned (.int .i64 0)/\∃ D',DiskAt base w' D'/\Grows D D' [n] 0 0/\Mod D.foot w w'/\(∀ k,D'.foot k->D.foot k\/w.heap.size<=k)/\(∃ f,D'.find n=some f/\f.now=[])/\∀ m,m≠n->D'.find m=D.find m:=by
 have A:=vw.2 hn;refine (xe n w h hbase).mono ?_;rintro e w' ⟨b,hb,rfl,hd,B⟩;refine ⟨by rw [hq.createE A],D.create n b,hd,?_,B,λk hk=>?_,?_,λm B=>?_⟩
 ·
  rw [hq.create A];refine ⟨⟨hq.left,hq.up⟩,rfl,rfl,by rw [List.map_append]; rfl,?_,rfl⟩;show fe (D.files++[(n,(⟨b,[],[]⟩:FileD))])=fe D.files+0;rw [xg]; rfl
 . rcases uk hk with h1 | h1
   . exact .inl h1
   . right; omega
 . exact ⟨⟨b,[],[]⟩,by rw [yx hq A,if_pos rfl],rfl⟩
 . rw [yx hq A,if_neg B]
theorem afs {base:Nat} {D:DiskD} (n:List UInt8) (f:FileD) (t:List UInt8) (w:World) (h:DiskAt base w D) (hq:Quiet D) (hf:D.find n=some f) (o:Nat) (ho:o=f.now.length) (ht:t≠[]) (htl:t.length<=1048576) (hr:(t.length:Int)<=D.room) (hwl:D.waits.length<=1048576) (hbase:base<=w.heap.size) :
 Calls Tryz.prog 138 #[.pointer (some ⟨D.blk,0,none⟩),.string (S n),.int .i64 (o:Int),.string (S t)] w λe w'=>e=.returned (.int .i64 0)/\∃ D',DiskAt base w' D'/\Grows D D' [] t.length 1/\Mod D.foot w w'/\(∀ k,D'.foot k->D.foot k\/w.heap.size<=k)/\(∃ f',D'.find n=some f'/\f'.now=f.now++t)/\∀ m,m≠n->D'.find m=D.find m:=by
 have A:=h.small n
 have J:f.now.length<=16777216:=by
  unfold DiskD.bytes at A; rw [hf] at A; exact A
 refine (zw n (o:Int) (by omega) t (by omega) hwl w h hbase).mono ?_;rintro e w' ⟨wv,rfl,hd,M,hk⟩;obtain ⟨h1,E⟩:=hq.write h.names hf (o:=(o:Int)) (by rw [ho]) ht hr wv;have B:=lm hf;refine ⟨by rw [h1],D.write n (o:Int) t wv,hd,?_,M,hk,?_,λm F=>?_⟩
 ·
  rw [E];refine ⟨⟨hq.left,hq.up⟩,rfl,rfl,by rw [List.append_nil]; exact aap _ _ _,?_,by simp⟩;have:=zu D.files n (f.now++t) f h.names B;rw [List.length_append] at this;show fe (setNow D.files n (f.now++t))=fe D.files+t.length;omega
 ·
  rw [E];have:=qh D.files n (f.now++t) n;rw [if_pos rfl] at this;refine ⟨{ f with now:=f.now++t },?_,rfl⟩;have I:(D.files.find? λp=>p.1 == n).map (·.2)=some f:=hf;show (((setNow D.files n (f.now++t)).find? λp=>p.1 == n).map (·.2))=_;rw [this,I]; rfl
 ·
  rw [E];have:=qh D.files n (f.now++t) m;rw [if_neg F] at this;exact this
theorem an3 {D:DiskD} {hd:List UInt8} (h:∀ x∈D.files.map (·.1),Lib.hasPrefix x hd=false):D.list hd=[]:=by
 cases hl:D.list hd with
 | nil=>rfl
 | cons x l =>
   have A:x∈D.list hd:=by rw [hl]; exact .head _
   have:=aa9.1 A;rw [h x this.2] at this;exact absurd this.1 (by decide)
theorem aft {base:Nat} {D:DiskD} (hd:List UInt8) (w:World) (h:DiskAt base w D) (hfl:D.files.length<=1048576) (hnl:∀ p∈D.files,p.1.length<=maxLen) (hno:∀ x∈D.files.map (·.1),Lib.hasPrefix x hd=false) :
 Calls Tryz.prog 102 #[.pointer (some ⟨D.blk,0,none⟩),.string (S hd)] w λe w'=>(∃ a c,e=.returned (.slice a 0 c))/\Below w.heap.size w w':=by
 refine (list_any hd w h hfl hnl).mono ?_;rintro e w' ⟨v,rfl,A,hb⟩;rw [an3 hno] at A;obtain ⟨a,c,rfl,-⟩:=Row1.of_own A;exact ⟨⟨a,c,rfl⟩,hb⟩
open MapG
structure QueD where
 topic:List UInt8
 q:Int
 blk:Nat
 R:SegD
 b0:Nat
 least:Nat
structure CqD where
 blk:Nat
 db:Nat
 mB:Nat
 qs:List QueD
def QueD.key (x:QueD):Value:=.agg #[.string (S x.topic),.int .i64 x.q]
def QueD.cells (x:QueD):Array Value:=#[.pointer (some ⟨x.R.blk,0,none⟩),.int .i64 (x.b0:Int),.int .i64 (x.least:Int)]
structure CqAt (base:Nat) (w:World) (C:CqD):Prop where
 cells:w.heap[C.blk]?=some (.cells #[.pointer (some ⟨C.db,0,none⟩),.map (some C.mB)] 213 (0,0))
 map:PairsAt w C.mB (C.qs.map λx=>(x.key,.pointer (some ⟨x.blk,0,none⟩)))
 que:∀ x∈C.qs,w.heap[x.blk]?=some (.cells x.cells 217 (0,0))/\SegAt base w x.R/\x.R.db=C.db
 low:base<=C.blk/\base<=C.mB/\∀ x∈C.qs,base<=x.blk
 away:∀ x∈C.qs,x.blk≠C.mB/\x.blk≠C.blk/\∀ k,x.R.foot k->k≠C.mB/\k≠C.blk/\k≠x.blk
 sep:C.qs.Pairwise λx y=>∀ k,(k=x.blk\/x.R.foot k)->¬ (k=y.blk\/y.R.foot k)
def CqD.foot (C:CqD) (k:Nat):Prop:=k=C.blk\/k=C.mB\/∃ x∈C.qs,k=x.blk\/x.R.foot k
theorem CqAt.lt {base:Nat} {w:World} {C:CqD} (h:CqAt base w C) {k:Nat} (hk:C.foot k):k < w.heap.size:=by
 rcases hk with hk | hk | ⟨x,hx,hk | hk⟩
 . rw [hk]; exact (Array.getElem?_eq_some_iff.1 h.cells).1
 . rw [hk]; exact h.map.lt
 . rw [hk]; exact (Array.getElem?_eq_some_iff.1 (h.que x hx).1).1
 . exact (h.que x hx).2.1.lt hk
theorem CqAt.mod {base:Nat} {w w':World} {C:CqD} {M:Nat->Prop} (h:CqAt base w C) (hm:Mod M w w') (hM:∀ k,C.foot k->¬ M k):CqAt base w' C :=
 ⟨(hm.block _ (h.lt (.inl rfl)) (hM _ (.inl rfl))).trans h.cells,h.map.mod hm (hM _ (.inr (.inl rfl))),
  λx A=>⟨(hm.block _ (h.lt (.inr (.inr ⟨x,A,.inl rfl⟩))) (hM _ (.inr (.inr ⟨x,A,.inl rfl⟩)))).trans (h.que x A).1,(h.que x A).2.1.mod hm (λk hk=>hM k (.inr (.inr ⟨x,A,.inr hk⟩))),(h.que x A).2.2⟩,h.low,h.away,h.sep⟩
theorem CqAt.below {base:Nat} {w w':World} {C:CqD} (h:CqAt base w C) (hb:Below w.heap.size w w'):CqAt base w' C :=
 h.mod (M:=λ_=>False) (Mod.of_below hb) (λ_ _ h=>h)
theorem apw {base:Nat} {D:DiskD} (w:World) (h:DiskAt base w D) (hfl:D.files.length<=1048576) (hnl:∀ p∈D.files,p.1.length<=maxLen) (hno:∀ x∈D.files.map (·.1),Lib.hasPrefix x [113,45]=false) (hbase:base<=w.heap.size) :
 Calls Tryz.prog 87 #[.pointer (some ⟨D.blk,0,none⟩)] w λe w'=>∃ C,e=.returned (.tuple #[.pointer (some ⟨C.blk,0,none⟩),.int .i64 0])/\CqAt base w' C/\C.qs=[]/\C.db=D.blk/\Below w.heap.size w w'/\∀ k,C.foot k->w.heap.size<=k:=by
 have F:=zq (aft [113,45] w h hfl hnl hno);have E:=zq hbase;clear h hfl hnl hno hbase;have I:∀ w:World,(Instr.makeMap 211 none).run Tryz.prog w=.ok (.map (some w.heap.size)) (w.alloc (.map #[] 0)):=λ_=>rfl
 go_enter Tryz.func87,Tryz.ntmps87;go_wp2_with fail;refine F.o.mono ?_;rintro e w1 ⟨⟨a,c,rfl⟩,hb⟩;have J:=zq hb;clear hb F;go_wp2_with fail;go_ret2;have B:=J.o;have M:=B.size;have N:=E.o;refine ⟨⟨w1.heap.size+1,D.blk,w1.heap.size,[]⟩,by first | rfl | (rw [World.size_alloc]),⟨?_,?_,λx A=>absurd A List.not_mem_nil,⟨by show base<=w1.heap.size+1; omega,by show base<=w1.heap.size; omega,λx A=>absurd A List.not_mem_nil⟩,(λx A=>absurd A List.not_mem_nil),List.Pairwise.nil⟩,rfl,rfl,?_,λk hk=>?_⟩
 . have:=heap_alloc_new (w1.alloc (.map #[] 0)) (.cells #[.pointer (some ⟨D.blk,0,none⟩),.map (some w1.heap.size)] 213)
   rw [World.size_alloc] at this; exact this
 . exact (PairsAt.new w1).below ((Below.refl _ _).alloc (Nat.le_refl _) _)
 . exact (B.alloc M _).alloc (by rw [World.size_alloc]; omega) _
 ·
  rcases hk with hk | hk | ⟨x,A,_⟩
  . have:k=w1.heap.size+1:=hk
    omega
  . have:k=w1.heap.size:=hk
    omega
  . exact absurd A List.not_mem_nil
def iq:List UInt8:=[120,45,108,105,110,107,115]
def gz:List UInt8:=[120,45,115,108,111,116,115]
def lh:List UInt8:=[119,45,115,108,111,116,115]
def qj:List UInt8:=[119,45,109,97,114,107,115]
def tu (n:Nat):List UInt8:=List.replicate n 0
theorem agz (n:Nat) (hn:n<=1048576) (w:World):(Instr.makeSlice 231 (.int .i64 (n:Int)) (.int .i64 (n:Int))).run Tryz.prog w=.ok (.slice (some ⟨w.heap.size,0,none⟩) n n) (w.alloc (.cells (zeros n) 5)) /\
 (convert 231 9 (.slice (some ⟨w.heap.size,0,none⟩) n n)).run Tryz.prog (w.alloc (.cells (zeros n) 5))=.ok (.string (S (tu n))) (w.alloc (.cells (zeros n) 5)):=by
 obtain ⟨i0,F,A,B,E⟩:=info_parts (show (Tryz.prog.info? 5).map (λi=>(i.zero,i.size,i.bytes))=some (some (.int .u8 0),1,1) by kernel_rfl);refine ⟨ym (P:=Tryz.prog) w 231 5 i0 Tryz.underlying231 F A B E n hn,?_⟩;exact wm (P:=Tryz.prog) (aeh w 5 n) 231 5 9 Tryz.underlying231 Tryz.underlying5 Tryz.underlying9 n n (by simp)
theorem acu {ns:List (List UInt8)} {hd n:List UInt8} (h:∀ x∈ns,Lib.hasPrefix x hd=false) (hn:Lib.hasPrefix n hd=true):n∉ns:=λA=>by
 rw [h n A] at hn; cases hn
theorem ai5 {base:Nat} {D:DiskD} (p:Nat) (hp:p<=1099511627776) (w:World) (h:DiskAt base w D) (hq:Quiet D) (hfl:D.files.length<=1000) (hnl:∀ p∈D.files,p.1.length<=maxLen) (hno:∀ x∈D.files.map (·.1),Lib.hasPrefix x [119,45]=false) (hr:96<=D.room) (hwl:D.waits.length<=1000) (hbase:base<=w.heap.size) :
 Calls Tryz.prog 156 #[.pointer (some ⟨D.blk,0,none⟩),.int .i64 (p:Int)] w λe w'=>∃ b,e=.returned (.tuple #[.pointer (some ⟨b,0,none⟩),.int .i64 0])/\w'.heap[b]?=some (.cells #[.pointer (some ⟨D.blk,0,none⟩),.int .i64 (p:Int)] 312 (0,0))/\w.heap.size<=b /\
  ∃ D',DiskAt base w' D'/\Grows D D' [lh] 96 1/\Mod D.foot w w'/\(∀ k,D'.foot k->(D.foot k\/w.heap.size<=k)/\k≠b)/\(∀ m,m≠lh->D'.find m=D.find m)/\∃ f,D'.find lh=some f/\f.now.length=96:=by
 have HL:=zq (aft [119,45] w h (by omega) hnl hno);have HC:=zq (λ(w2:World) (hb:Below w.heap.size w w2)=>abf lh w2 (h.below hb) hq (acu hno rfl) (Nat.le_trans hbase hb.size));have HZ:=zq (λ(w:World)=>agz 96 (by omega) w);have HR:=zq hr;have ar:=zq hwl;have av:=zq hbase;have a6:Zq (∀ w:World,(Instr.makeSlice 231 (.int .i64 96) (.int .i64 96)).run Tryz.prog w=.ok (.slice (some ⟨w.heap.size,0,none⟩) 96 96) (w.alloc (.cells (zeros 96) 5))):=λw=>(HZ.o w).1
 have a7:Zq (∀ w:World,(convert 231 9 (.slice (some ⟨w.heap.size,0,none⟩) 96 96)).run Tryz.prog (w.alloc (.cells (zeros 96) 5))=.ok (.string (S (tu 96))) (w.alloc (.cells (zeros 96) 5))):=λw=>(HZ.o w).2
 clear h hq hfl hnl hno hr hwl hbase HZ;go_enter Tryz.func156,Tryz.ntmps156;go_wp2_with fail;refine HL.o.mono ?_;rintro e w1 ⟨⟨a,c,rfl⟩,hb⟩;have B:=zq hb;clear hb HL;go_wp2_with fail;refine (HC.o w1 B.o).mono ?_;rintro e w2 ⟨rfl,D1,J,A,M,O,⟨f,N,E⟩,R⟩;have bz:=zq J;have a8:=zq A;have U:=zq M;have X:=zq O;have b0:=zq N;have b1:=zq E;have ba:=zq R;have bb:=a6.o w2;have bc:=a7.o w2;have HW:=zq (λ(w3:World) (hb:Below w2.heap.size w2 w3)=>afs lh f (tu 96) w3 (J.below hb) A.quiet N 0 (by rw [E]; rfl) (by unfold tu; simp) (by unfold tu; simp) (by rw [A.room]; unfold tu; have:=HR.o; simp; omega) (by rw [A.waits]; have:=ar.o; omega) (by have h1:=av.o; have h2:=B.o.size; have h3:=M.size; have h4:=hb.size; omega));rw [A.blk] at HW;have F:=E;clear J A M O N E R HC;go_wp2_with fail;refine (HW.o _ ((Below.refl _ _).alloc (Nat.le_refl _) _)).mono ?_;rintro e w3 ⟨rfl,D2,Y,Z,ab,ac,I,ad⟩
 have bh:Zq (∃ f':FileD,D2.find lh=some f'/\f'.now.length=96):=by
  obtain ⟨f',a1,a2⟩:=I;exact ⟨f',a1,by rw [a2,F]; unfold tu; simp⟩
 clear I F;have ak:=zq Y;have bj:=zq Z;have al:=zq ab;have bk:=zq ac;have bl:=zq ad;clear Y Z ab ac ad HW bb bc;go_wp2_with fail;go_ret2;have b3:=B.o.size;have b4:=U.o.size;have bm:=al.o.size;rw [World.size_alloc] at bm;have am:∀ o,Below w3.heap.size w3 (w3.alloc o):=λo=>(Below.refl _ _).alloc (Nat.le_refl _) _
 have bo:∀ k,D2.foot k->D.foot k\/w.heap.size<=k:=λk hk=>by
  rcases bk.o k hk with h | h
  . rcases X.o k h with h | h
    . exact .inl h
    . right; omega
  . rw [World.size_alloc] at h; right; omega
 have hm:Mod D.foot w w3:=by
  have h1:Mod D.foot w w2:=(Mod.of_below B.o).trans U.o;have h2:Mod D1.foot w2 w3:=(Mod.of_below ((Below.refl _ _).alloc (Nat.le_refl _) _)).trans al.o;exact jb h1 h2 (λk hk=>(X.o k hk).imp_right λh=>by omega)
 refine ⟨w3.heap.size,rfl,heap_alloc_new w3 _,by omega,D2,ak.o.below (am _),?_,hm.trans (Mod.of_below (am _)),λk hk=>⟨bo k hk,λe=>by have:=ak.o.lt hk; omega⟩,λm an=>(bl.o m an).trans (ba.o m an),bh.o⟩;have:=a8.o.trans bj.o
 simpa [tu] using this
theorem alx {base:Nat} {D:DiskD} (p:Nat) (hp:p<=1099511627776) (w:World) (h:DiskAt base w D) (hq:Quiet D) (hfl:D.files.length<=1000) (hnl:∀ p∈D.files,p.1.length<=maxLen) (hno:∀ x∈D.files.map (·.1),Lib.hasPrefix x [119,45]=false) (hr:96<=D.room) (B:D.waits.length<=1000) (hbase:base<=w.heap.size) :
 Calls Tryz.prog 89 #[.pointer (some ⟨D.blk,0,none⟩),.int .i64 (p:Int)] w λe w'=>∃ b wb,e=.returned (.tuple #[.pointer (some ⟨b,0,none⟩),.int .i64 0])/\w'.heap[b]?=some (.cells #[.pointer (some ⟨wb,0,none⟩),.int .i64 0] 251 (0,0)) /\
  w'.heap[wb]?=some (.cells #[.pointer (some ⟨D.blk,0,none⟩),.int .i64 (p:Int)] 312 (0,0))/\w.heap.size<=b/\w.heap.size<=wb/\b≠wb /\
  ∃ D',DiskAt base w' D'/\Grows D D' [lh,qj] 96 1/\Mod D.foot w w'/\(∀ k,D'.foot k->(D.foot k\/w.heap.size<=k)/\k≠b/\k≠wb)/\(∀ m,m≠lh->m≠qj->D'.find m=D.find m)/\(∃ f,D'.find lh=some f/\f.now.length=96)/\∃ f,D'.find qj=some f/\f.now.length=0:=by
 have R:=zq (ai5 p hp w h hq hfl hnl hno hr B hbase);have U:qj∉D.files.map (·.1):=acu hno rfl;have ba:=zq U;have bb:=zq hbase;have bp:Zq (∀ k,D.foot k->k < w.heap.size):=λk hk=>h.lt hk
 clear h hq hfl hnl hno hr B hbase U;go_enter Tryz.func89,Tryz.ntmps89;go_wp2_with fail;refine R.o.mono ?_;rintro e w1 ⟨wb,rfl,X,E,D1,F,A,I,J,Y,M⟩;have Z:∀ k,D1.foot k->k≠wb:=λk hk=>(J k hk).2
 have br:=zq F;have bc:=zq A;have ab:=zq I;have ac:=zq J;have bd:=zq Y;have ad:=zq X;have bh:=zq E;have ak:=zq Z;have bj:=zq M;have HC:=zq (abf qj w1 F A.quiet (by rw [A.names]; intro hm; rcases List.mem_append.1 hm with h | h; exact ba.o h; revert h; decide) (by have:=bb.o; have:=I.size; omega));rw [A.blk] at HC;clear F A I J Y X E Z M R;go_wp2_with fail;refine HC.o.mono ?_;rintro e w2 ⟨rfl,D2,al,am,an,ao,ap,ar⟩;have bm:=zq ap;clear ap;have av:=zq al;have bo:=zq am;have N:=zq an;have a6:=zq ao;have a7:=zq ar;clear al am an ao ar HC;go_wp2_with fail;go_ret2;have M:=ab.o.size;have bs:=N.o.size;have E:=bh.o;have B:wb < w1.heap.size:=(Array.getElem?_eq_some_iff.1 ad.o).1;have O:∀ o,Below w2.heap.size w2 (w2.alloc o):=λo=>(Below.refl _ _).alloc (Nat.le_refl _) _
 have a8:w2.heap[wb]?=_:=(N.o.block wb B (λh=>ak.o wb h rfl)).trans ad.o;have hm:Mod D.foot w w2:=jb ab.o N.o (λk hk=>(ac.o k hk).1);refine ⟨w2.heap.size,wb,rfl,heap_alloc_new w2 _,((O _).block wb (by omega)).trans a8,by omega,E,by omega,D2,av.o.below (O _),?_,hm.trans (Mod.of_below (O _)),λk hk=>⟨?_,?_,λe=>?_⟩,λm h1 h2=>(a7.o m h2).trans (bd.o m h1),?_,?_⟩
 . have:=bc.o.trans bo.o
   simpa using this
 . rcases a6.o k hk with h | h
   . exact (ac.o k h).1
   . right; omega
 . have:=av.o.lt hk; omega
 . rcases a6.o k hk with h | h
   . exact ak.o k h e
   . omega
 . rw [a7.o lh (by decide)]; exact bj.o
 . obtain ⟨f,a1,a2⟩:=bm.o
   exact ⟨f,a1,by rw [a2]; rfl⟩
structure Made (base:Nat) (D:DiskD) (w1 wr:World) (k:Nat) (Dk:DiskD):Prop where
 dsk:DiskAt base wr Dk
 grows:Grows D Dk (([iq,gz]:List (List UInt8)).take k) 0 0
 mod:Mod D.foot w1 wr
 foot:∀ j,Dk.foot j->D.foot j\/w1.heap.size<=j
 find:k=2->∃ f,Dk.find gz=some f/\f.now=[]
 findL:1<=k->∃ f,Dk.find iq=some f/\f.now=[]
 other:∀ m,m≠iq->m≠gz->Dk.find m=D.find m
theorem aly {base:Nat} {D:DiskD} (w:World) (h:DiskAt base w D) (hq:Quiet D) (hfl:D.files.length<=1000) (hnl:∀ p∈D.files,p.1.length<=maxLen) (hno:∀ x∈D.files.map (·.1),Lib.hasPrefix x [120,45]=false) (hr:24<=D.room) (hwl:D.waits.length<=1000) (hbase:base<=w.heap.size) :
 Calls Tryz.prog 88 #[.pointer (some ⟨D.blk,0,none⟩)] w λe w'=>∃ b,e=.returned (.tuple #[.pointer (some ⟨b,0,none⟩),.int .i64 0])/\w'.heap[b]?=some (.cells #[.pointer (some ⟨D.blk,0,none⟩),.int .i64 0] 224 (0,0))/\w.heap.size<=b /\
  ∃ D',DiskAt base w' D'/\Grows D D' [iq,gz] 24 1/\Mod D.foot w w'/\(∀ k,D'.foot k->(D.foot k\/w.heap.size<=k)/\k≠b)/\(∀ m,m≠iq->m≠gz->D'.find m=D.find m)/\(∃ f,D'.find gz=some f/\f.now.length=24)/\∃ f,D'.find iq=some f/\f.now.length=0:=by
 have HL:=zq (aft [120,45] w h (by omega) hnl hno);have a8:iq∉D.files.map (·.1):=acu hno rfl;have X:gz∉D.files.map (·.1):=acu hno rfl;have b2:=zq a8;have b3:=zq X;have HZ:=zq (λ(w:World)=>agz 24 (by omega) w);have HR:=zq hr;have b5:=zq hwl;have b6:=zq hbase;have HQ:=zq hq;have HD:=zq h;have b7:Zq (∀ w:World,(Instr.makeSlice 231 (.int .i64 24) (.int .i64 24)).run Tryz.prog w=.ok (.slice (some ⟨w.heap.size,0,none⟩) 24 24) (w.alloc (.cells (zeros 24) 5))):=λw=>(HZ.o w).1
 have b8:Zq (∀ w:World,(convert 231 9 (.slice (some ⟨w.heap.size,0,none⟩) 24 24)).run Tryz.prog (w.alloc (.cells (zeros 24) 5))=.ok (.string (S (tu 24))) (w.alloc (.cells (zeros 24) 5))):=λw=>(HZ.o w).2
 clear h hq hfl hnl hno hr hwl hbase HZ a8 X;go_enter Tryz.func88,Tryz.ntmps88;go_wp2_with fail;refine HL.o.mono ?_;rintro e w1 ⟨⟨a,c,rfl⟩,hb⟩;have E:=zq hb;clear hb HL;go_wp2_with fail;have ao:Below w1.heap.size w1 ((w1.alloc (.cells #[.pointer (some ⟨D.blk,0,none⟩),.int .i64 0] 224)).alloc (.cells #[.string ⟨#[120,45,108,105,110,107,115]⟩,.string ⟨#[120,45,115,108,111,116,115]⟩] 9)):=((Below.refl _ _).alloc (Nat.le_refl _) _).alloc (by rw [World.size_alloc]; omega) _
 have ba:((w1.alloc (.cells #[.pointer (some ⟨D.blk,0,none⟩),.int .i64 0] 224)).alloc (.cells #[.string ⟨#[120,45,108,105,110,107,115]⟩,.string ⟨#[120,45,115,108,111,116,115]⟩] 9)).heap[w1.heap.size]?=some (.cells #[.pointer (some ⟨D.blk,0,none⟩),.int .i64 0] 224 (0,0)):=by
  rw [((Below.refl (w1.alloc (.cells #[.pointer (some ⟨D.blk,0,none⟩),.int .i64 0] 224)).heap.size _).alloc (Nat.le_refl _) _).block _ (by rw [World.size_alloc]; omega)];exact heap_alloc_new w1 _
 have X:((w1.alloc (.cells #[.pointer (some ⟨D.blk,0,none⟩),.int .i64 0] 224)).alloc (.cells #[.string ⟨#[120,45,108,105,110,107,115]⟩,.string ⟨#[120,45,115,108,111,116,115]⟩] 9)).heap[w1.heap.size+1]?=some (.cells #[.string ⟨#[120,45,108,105,110,107,115]⟩,.string ⟨#[120,45,115,108,111,116,115]⟩] 9 (0,0)):=by
  have:=heap_alloc_new (w1.alloc (.cells #[.pointer (some ⟨D.blk,0,none⟩),.int .i64 0] 224)) (.cells #[.string ⟨#[120,45,108,105,110,107,115]⟩,.string ⟨#[120,45,115,108,111,116,115]⟩] 9);rw [World.size_alloc] at this; exact this
 generalize (w1.alloc (.cells #[.pointer (some ⟨D.blk,0,none⟩),.int .i64 0] 224)).alloc (.cells #[.string ⟨#[120,45,108,105,110,107,115]⟩,.string ⟨#[120,45,115,108,111,116,115]⟩] 9)=w2 at *
 have Y:DiskAt base w2 D:=(HD.o.below E.o).below ao;have bb:∀ k,D.foot k->k < w1.heap.size:=λk hk=>(HD.o.below E.o).lt hk
 have bc:=zq bb;have ap:=zq ao;have bd:=zq ba;have am:=zq X;have S0:Zq (∃ Dk,Made base D w2 w2 0 Dk):=⟨D,Y,Grows.refl HQ.o,Mod.refl _ _,λj hj=>.inl hj,λh=>absurd h (by decide),λh=>absurd h (by decide),λ_ _ _=>rfl⟩;obtain ⟨gi,F⟩:∃ g,w1.heap.size=g:=⟨_,rfl⟩;obtain ⟨gn,I⟩:∃ g,w1.heap.size+1=g:=⟨_,rfl⟩;have HG:Zq (w1.heap.size=gi/\w1.heap.size+1=gn):=⟨F,I⟩;rw [I,F];clear ao ba X Y bb F I;go_loopw [29] (λi wr=>∃ k:Nat,k<=2/\i=.int .i64 (k:Int)/\Zq (∃ Dk,Made base D w2 wr k Dk)) (λi _=>2 - (intOf i).toNat)
 case atStart=>exact ⟨0,by omega,rfl,S0⟩
 case round =>
  clear S0;obtain ⟨k,hk,rfl,HM⟩:=hrel;obtain ⟨Dk,A⟩:=HM.o;have I:=HG.o.2
  have Z:wr.heap[gn]?=some (.cells #[.string ⟨#[120,45,108,105,110,107,115]⟩,.string ⟨#[120,45,115,108,111,116,115]⟩] 9 (0,0)):=by
   rw [<- I,A.mod.block _ (Array.getElem?_eq_some_iff.1 am.o).1 (λh=>by have:=bc.o _ h; omega)]; exact am.o
  clear I HM;have n0:wr.cell? ⟨gn,0,none⟩=some (.string (S iq)):=by rw [Lib.cell_of_heap Z]; rfl
  have n1:wr.cell? ⟨gn,1,none⟩=some (.string (S gz)):=by rw [Lib.cell_of_heap Z]; rfl
  have J:=A.grows.blk;have al:base<=wr.heap.size:=by have h1:=b6.o; have R:=E.o.size; have h3:=ap.o.size; have h4:=A.mod.size; omega
  have cb:k=0\/k=1\/k=2:=by omega
  rcases cb with rfl | rfl | rfl
  ·
   have ab:iq∉Dk.files.map (·.1):=by rw [A.grows.names]; simpa using b2.o
   have HC:=zq (abf iq wr A.dsk A.grows.quiet ab al);rw [J] at HC;have ac:=zq A;clear A Z n1 J al ab hk;go_wp2_with fail;refine HC.o.mono ?_;rintro e w3 ⟨rfl,D',hd,hg,U,hf,B,N⟩;have HH:=zq (And.intro hd (And.intro hg (And.intro U (And.intro hf (And.intro B N)))));clear hd hg U hf B N HC n0;go_wp2_with fail;go_roundw
   case rel =>
    obtain ⟨hd,hg,U,hf,B,N⟩:=HH.o;have A:=ac.o;have hs:=A.mod.size;refine ⟨1,by omega,rfl,D',hd,A.grows.trans hg,jb A.mod U A.foot,λj hj=>(hf j hj).elim (A.foot j) λh=>.inr (by omega),λh=>absurd h (by decide),λ_=>B,λm h1 R=>(N m h1).trans (A.other m h1 R)⟩
   case measure=>simp [intOf]
  ·
   have ab:gz∉Dk.files.map (·.1):=by
    rw [A.grows.names];intro h
    rcases List.mem_append.1 h with h | h
    . exact b3.o h
    . revert h; decide
   have HC:=zq (abf gz wr A.dsk A.grows.quiet ab al);rw [J] at HC;have ac:=zq A;clear A Z n0 J al ab hk;go_wp2_with fail;refine HC.o.mono ?_;rintro e w3 ⟨rfl,D',hd,hg,U,hf,O,N⟩;have HH:=zq (And.intro hd (And.intro hg (And.intro U (And.intro hf (And.intro O N)))));clear hd hg U hf N O HC n1;go_wp2_with fail;go_roundw
   case rel =>
    obtain ⟨hd,hg,U,hf,O,N⟩:=HH.o;have A:=ac.o;have hs:=A.mod.size;refine ⟨2,by omega,rfl,D',hd,A.grows.trans hg,jb A.mod U A.foot,λj hj=>(hf j hj).elim (A.foot j) λh=>.inr (by omega),λ_=>O,λ_=>by rw [N iq (by decide)]; exact A.findL (by omega),λm h1 R=>(N m R).trans (A.other m h1 R)⟩
   case measure=>simp [intOf]
  ·
   obtain ⟨f,bj,a6⟩:=A.find rfl;have cc:=b7.o wr;have cd:=b8.o wr;have bk:=A.grows.waits;have bl:=A.grows.room;have HW:=zq (λ(w3:World) (hb:Below wr.heap.size wr w3)=>afs gz f (tu 24) w3 (A.dsk.below hb) A.grows.quiet bj 0 (by rw [a6]; rfl) (by unfold tu; simp) (by unfold tu; simp) (by rw [bl]; unfold tu; have:=HR.o; simp; omega) (by rw [bk]; have:=b5.o; omega) (by have h4:=hb.size; omega));rw [J] at HW;have ac:=zq A;have bm:=a6;clear A Z n0 n1 J hk bj a6 bk bl;go_wp2_with fail;refine (HW.o _ ((Below.refl _ _).alloc (Nat.le_refl _) _)).mono ?_;rintro e w3 ⟨rfl,D2,Y,bo,bp,br,an,bs⟩
   have cf:Zq (∃ f':FileD,D2.find gz=some f'/\f'.now.length=24):=by
    obtain ⟨f',a1,a2⟩:=an;exact ⟨f',a1,by rw [a2,bm]; unfold tu; simp⟩
   have HH:=zq (And.intro Y (And.intro bo (And.intro bp (And.intro br bs))));clear Y bo bp br an bs HW cc cd;go_wp2_with fail;go_ret2;obtain ⟨hd,hg,U,hf,N⟩:=HH.o;have A:=ac.o;have hs:=A.mod.size;have F:=HG.o.1;have cs:=E.o.size;have cv:=ap.o.size;have cg:=U.size;rw [World.size_alloc] at cg;have hi:gi < w2.heap.size:=by rw [<- F]; exact (Array.getElem?_eq_some_iff.1 bd.o).1
   have bw:Mod D.foot w2 w3:=jb A.mod ((Mod.of_below (M:=Dk.foot) ((Below.refl _ _).alloc (Nat.le_refl _) _)).trans U) A.foot;have bz:¬ D.foot gi:=λh=>by have:=bc.o _ h; omega
   have O:∀ j,D2.foot j->(D.foot j\/w.heap.size<=j)/\j≠gi:=λj hj=>by
    rcases hf j hj with h | h
    . rcases A.foot j h with R | R
      . exact ⟨.inl R,λe=>bz (e ▸ R)⟩
      . exact ⟨.inr (by omega),λe=>by omega⟩
    . rw [World.size_alloc] at h
      exact ⟨.inr (by omega),λe=>by omega⟩
   refine ⟨gi,rfl,?_,by omega,D2,hd,?_,?_,O,λm h1 R=>(N m R).trans (A.other m h1 R),cf.o,?_⟩
   . rw [bw.block gi hi bz,<- F]; exact bd.o
   . have:=A.grows.trans hg
     simpa [tu] using this
   . exact (Mod.of_below (E.o.trans (ap.o.mono E.o.size))).trans bw
   . obtain ⟨g,g1,g2⟩:=A.findL (by omega)
     exact ⟨g,by rw [N iq (by decide)]; exact g1,by rw [g2]; rfl⟩
end CacheW
namespace TopW
open Go.RowKit Go.MapKept OctMath DskW NameMath NameW
def RowT (w:World) (a:Option Addr) (l:List (List UInt8×Nat)):Prop:=∀ (k:Nat) (h:k < l.length),∃ g,a=some ⟨g,0,none⟩/\g < w.heap.size/\w.cell? ⟨g,k * 2,none⟩=some (.string (S l[k].1))/\w.cell? ⟨g,k * 2+1,none⟩=some (.int .i64 (l[k].2:Int))
theorem RowT.below {w w':World} {a:Option Addr} {l:List (List UInt8×Nat)} (h:RowT w a l) (hb:Below w.heap.size w w'):RowT w' a l:=by
 intro k hk;obtain ⟨g,e,A,h1,B⟩:=h k hk;exact ⟨g,e,Nat.lt_of_lt_of_le A hb.size,by rw [hb.cell A]; exact h1,by rw [hb.cell A]; exact B⟩
theorem alz (x n:List UInt8) (q:Nat) (bx:Nat) (w:World) (hc:w.cell? ⟨bx,0,none⟩=some (.string (S n))) :
 Calls Tryz.prog 98 #[.agg #[.string (S x),.int .i64 (q:Int)],.pointer (some ⟨bx,0,none⟩)] w λe w'=>e=.returned (.bool (decide (x=n)))/\Below w.heap.size w w':=by
 have hb:Zq (Below w.heap.size w (w.alloc (.cells #[.string (S x),.int .i64 (q:Int)] 111))):=(Below.refl _ _).alloc (Nat.le_refl _) _;have A:(w.alloc (.cells #[.string (S x),.int .i64 (q:Int)] 111)).cell? ⟨bx,0,none⟩=some (.string (S n)):=by rw [hb.o.cell (bq hc)]; exact hc
 have B:Zq (((S x).toList == (S n).toList)=decide (x=n)):=by
  show _=_;rw [DskW.S_toList,DskW.S_toList]
  by_cases h:x=n <;> simp [h]
 clear hc;go_enter Tryz.func98,Tryz.ntmps98;go_wp2_with fail;go_ret;rw [<- B.o];exact ⟨rfl,hb.o⟩
def adt (n:List UInt8):List (List UInt8×Nat)->Nat->Int
 | [],_ => -1
 | x :: l,i=>if x.1=n then (i:Int) else adt n l (i+1)
theorem ag0 (n:List UInt8):∀ (l:List (List UInt8×Nat)) (k i:Nat) (h:k < l.length),(∀ j (A:j < k),(l[j]'(by omega)).1≠n)->l[k].1=n->adt n l i=((i+k:Nat):Int)
 | x :: l,0,i,h,_,he=>by show (if x.1=n then (i:Int) else _)=_; rw [if_pos (show x.1=n from he)]; rfl
 | x :: l,k+1,i,h,hn,he=>by
   show (if x.1=n then (i:Int) else adt n l (i+1))=_;rw [if_neg (show ¬ x.1=n from hn 0 (by omega)),ag0 n l k (i+1) (by simpa using h) (λj A=>hn (j+1) (by omega)) he];congr 1; omega
theorem ae4 (n:List UInt8):∀ (l:List (List UInt8×Nat)) (i:Nat),(∀ x∈l,x.1≠n)->adt n l i = -1
 | [],_,_=>rfl
 | x :: l,i,h=>by show (if x.1=n then (i:Int) else adt n l (i+1))=_; rw [if_neg (h x (.head _)),ae4 n l (i+1) (λy A=>h y (.tail _ A))]
theorem apx (a:Option Addr) (cp:Nat) (l:List (List UInt8×Nat)) (I:l.length<=1048576) (bx:Nat) (n:List UInt8) (w:World) (hr:RowT w a l) (hs:w.cell? ⟨bx,0,none⟩=some (.string (S n))) :
 Calls Tryz.prog 161 #[.slice a l.length cp,.func (.func 98) #[] #[.pointer (some ⟨bx,0,none⟩)]] w λe w'=>e=.returned (.int .i64 (adt n l 0))/\Below w.heap.size w w':=by
 have U:=zq hr;have O:=zq hs;clear hr hs;go_enter Tryz.func161,Tryz.ntmps161;go_wp2_with fail;go_loopw [8] (λi wr=>∃ k:Nat,k<=l.length/\i=.int .i64 (k:Int)/\Zq (∀ x∈l.take k,x.1≠n)/\Zq (Below w.heap.size w wr)) (λi _=>l.length+1 - (intOf i).toNat)
 case atStart=>exact ⟨0,by omega,rfl,λx I=>by simp at I,Below.refl _ _⟩
 case round =>
  obtain ⟨k,hk,rfl,J,B⟩:=hrel
  by_cases hlt:k < l.length
  ·
   obtain ⟨g,rfl,X,h1,R⟩:=(U.o.below B.o) k hlt;have A:=zq (alz l[k].1 n l[k].2 bx wr (by rw [B.o.cell (bq O.o)]; exact O.o));have E:l.take (k+1)=l.take k++[l[k]]:=List.take_succ_eq_append_getElem hlt
   by_cases he:l[k].1=n
   ·
    have M:Zq (adt n l 0=(k:Int)):=by
     show _=_;rw [ag0 n l k 0 hlt (λj Y=>J.o _ (List.mem_take_iff_getElem.2 ⟨j,by omega,rfl⟩)) he,Nat.zero_add]
    rw [decide_eq_true he] at A;clear E he;go_wp2_with fail;refine A.o.mono ?_;rintro e w2 ⟨rfl,hb⟩;have F:=zq (B.o.trans (hb.mono B.o.size));clear hb A h1 R;go_wp2_with fail;go_ret;rw [M.o];exact ⟨rfl,F.o⟩
   ·
    have N:Zq (∀ x∈l.take (k+1),x.1≠n):=by
     show ∀ x∈l.take (k+1),x.1≠n
     rw [E];intro x I
     rcases List.mem_append.1 I with h | h
     . exact J.o x h
     . rw [List.mem_singleton] at h; subst h; exact he
    rw [decide_eq_false he] at A;clear E he;go_wp2_with fail;refine A.o.mono ?_;rintro e w2 ⟨rfl,hb⟩;have F:=zq (B.o.trans (hb.mono B.o.size));clear hb A h1 R;go_wp2_with fail;go_roundw
    case rel=>exact ⟨k+1,by omega,by go_num,N,F⟩
    case measure=>simp [intOf]; omega
  ·
   obtain rfl:k=l.length:=by omega
   have M:Zq (adt n l 0 = -1):=by
    show _=_;have:=J.o;rw [List.take_length] at this;exact ae4 n l 0 this
   go_wp2_with fail;go_ret;rw [M.o];exact ⟨rfl,B.o⟩
theorem akc (n:List UInt8):∀ (l:List (List UInt8×Nat)) (i:Nat),decide (0<=adt n l i)=l.any λx=>decide (x.1=n)
 | [],_=>rfl
 | x :: l,i=>by
   show decide (0<=if x.1=n then (i:Int) else adt n l (i+1))=(decide (x.1=n) || _)
   by_cases h:x.1=n
   . rw [if_pos h,decide_eq_true h,Bool.true_or]; exact decide_eq_true (by omega)
   . rw [if_neg h,decide_eq_false h,Bool.false_or]; exact akc n l (i+1)
theorem ai6 (a:Option Addr) (cp:Nat) (l:List (List UInt8×Nat)) (hx:l.length<=1048576) (bx:Nat) (n:List UInt8) (w:World) (hr:RowT w a l) (hs:w.cell? ⟨bx,0,none⟩=some (.string (S n))) :
 Calls Tryz.prog 100 #[.slice a l.length cp,.func (.func 98) #[] #[.pointer (some ⟨bx,0,none⟩)]] w λe w'=>e=.returned (.bool (l.any λx=>decide (x.1=n)))/\Below w.heap.size w w':=by
 have A:=zq (apx a cp l hx bx n w hr hs);have B:=zq (akc n l 0);generalize adt n l 0=r at *
 clear hr hs;go_enter Tryz.func100,Tryz.ntmps100;go_wp2_with fail;refine A.o.mono ?_;rintro e w2 ⟨rfl,hb⟩;have E:=zq hb;clear hb A;go_wp2_with fail;go_ret;rw [<- B.o];exact ⟨rfl,E.o⟩
def o9 (l:List (List UInt8×Nat)) (n:List UInt8) (q:Int):Int:=if ig n=false then 11 else if q < 1\/3 < q then 1 else if (l.any λx=>decide (x.1=n))=true then 10 else if 6<=l.length then 6 else 0
theorem right_any (a:Option Addr) (cp:Nat) (l:List (List UInt8×Nat)) (hx:l.length<=1048576) (n:List UInt8) (hn:n.length<=1099511627776) (q:Int) (w:World) (hr:RowT w a l) :
 Calls Tryz.prog 47 #[.slice a l.length cp,.agg #[.string (S n),.int .i64 q]] w λe w'=>e=.returned (.int .i64 (o9 l n q))/\Below w.heap.size w w':=by
 have I:Zq (Below w.heap.size w (w.alloc (.cells #[.string (S n),.int .i64 q] 111))):=(Below.refl _ _).alloc (Nat.le_refl _) _;have R:Zq (o9 l n q=if ig n=false then 11 else if q < 1\/3 < q then 1 else if (l.any λx=>decide (x.1=n))=true then 10 else if 6<=l.length then 6 else 0):=rfl;have HP:=zq (λw=>zx n hn w);have hh:=heap_alloc_new w (.cells #[.string (S n),.int .i64 q] 111);have E:=zq hh;have U:=zq (hr.below I.o);generalize ig n=pl at *
 clear hr hh;go_enter Tryz.func47,Tryz.ntmps47;go_upto_region 1 with fail
 generalize w.alloc (.cells #[.string (S n),.int .i64 q] 111)=w1 at *
 obtain ⟨A,X⟩:∃ A,w.heap.size=A:=⟨_,rfl⟩;rw [X] at E ⊢;have B:=zq X;clear X;have c0:w1.cell? ⟨A,0,none⟩=some (.string (S n)):=by rw [Lib.cell_of_heap E.o]; rfl
 go_wp2_with fail;refine (HP.o w1).mono ?_;rintro e w2 ⟨rfl,hb⟩;have F:=zq (I.o.trans (hb.mono I.o.size));have J:w2.heap[A]?=_:=(hb.block A (Array.getElem?_eq_some_iff.1 E.o).1).trans E.o;have Y:=zq J;have Z:=zq (U.o.below hb);have d1:w2.cell? ⟨A,1,none⟩=some (.int .i64 q):=by rw [Lib.cell_of_heap J]; rfl
 clear hb J HP c0 E I
 cases pl
 ·
  go_wp2_with fail;go_ret;rw [R.o,<- B.o];exact ⟨rfl,F.o⟩
 by_cases hq1:q < 1
 ·
  have hd:decide (q < 1)=true:=decide_eq_true hq1;have M:Zq (o9 l n q=1):=by show _=_; rw [R.o,if_neg (by decide),if_pos (.inl hq1)]
  clear hq1;go_wp2_with fail;go_ret;rw [M.o,<- B.o];exact ⟨rfl,F.o⟩
 have al:decide (q < 1)=false:=decide_eq_false hq1
 by_cases hq3:3 < q
 ·
  have hd:decide (3 < q)=true:=decide_eq_true hq3;have M:Zq (o9 l n q=1):=by show _=_; rw [R.o,if_neg (by decide),if_pos (.inr hq3)]
  clear hq1 hq3;go_wp2_with fail;go_ret;rw [M.o,<- B.o];exact ⟨rfl,F.o⟩
 have am:decide (3 < q)=false:=decide_eq_false hq3
 have M:Zq (o9 l n q=if (l.any λx=>decide (x.1=n))=true then 10 else if 6<=l.length then 6 else 0):=by
  show _=_;rw [R.o,if_neg (by decide),if_neg (by omega)]
 have HC:=zq (ai6 a cp l hx A n w2 Z.o (by rw [Lib.cell_of_heap Y.o]; rfl));clear hq1 hq3;generalize (l.any λx=>decide (x.1=n))=an at *
 go_wp2_with fail;refine HC.o.mono ?_;rintro e w3 ⟨rfl,hb⟩;have N:=zq (F.o.trans (hb.mono F.o.size));clear hb HC
 cases an
 ·
  by_cases h6:6<=l.length
  ·
   have ab:decide ((6:Int)<=(l.length:Int))=true:=decide_eq_true (by omega);have O:Zq (o9 l n q=6):=by show _=_; rw [M.o,if_neg (by decide),if_pos h6]
   clear h6;go_wp2_with fail;go_ret;rw [O.o,<- B.o];exact ⟨rfl,N.o⟩
  ·
   have ab:decide ((6:Int)<=(l.length:Int))=false:=decide_eq_false (by omega);have O:Zq (o9 l n q=0):=by show _=_; rw [M.o,if_neg (by decide),if_neg h6]
   clear h6;go_wp2_with fail;go_ret;rw [O.o,<- B.o];exact ⟨rfl,N.o⟩
 ·
  go_wp2_with fail;go_ret;rw [M.o,<- B.o];exact ⟨rfl,N.o⟩
def iw (l:List (List UInt8×Nat)):List Value:=l.flatMap λx=>[.string (S x.1),.int .i64 (x.2:Int)]
theorem ai7 (l:List (List UInt8×Nat)):(iw l).length=l.length * 2:=by
 unfold iw
 induction l with
 | nil=>rfl
 | cons x l ih=>simp only [List.flatMap_cons,List.length_append,ih,List.length_cons,List.length_nil]; omega
theorem aaw:∀ (l:List (List UInt8×Nat)) (k:Nat) (h:k < l.length),(iw l)[k * 2]?=some (.string (S l[k].1))/\(iw l)[k * 2+1]?=some (.int .i64 (l[k].2:Int))
 | x :: l,0,_=>⟨rfl,rfl⟩
 | x :: l,k+1,h=>by
   have A:=aaw l k (by simpa using h);have e:iw (x :: l)=.string (S x.1) :: .int .i64 (x.2:Int) :: iw l:=rfl;rw [e,show (k+1) * 2=k * 2+2 by omega];exact A
theorem RowT.own {base:Nat} {w:World} {v:Value} {l:List (List UInt8×Nat)} (h:w.ownsRow base 111 2 v l.length (iw l)):∃ a cp,v=.slice a l.length cp/\RowT w a l:=by
 rcases h.2 with ⟨rfl,h0⟩ | ⟨g,cap,cur,rfl,hb,hg,hn,hm,hc,ht⟩
 . exact ⟨none,0,by rw [h0],λk hk=>by omega⟩
 ·
  refine ⟨_,_,rfl,λk hk=>⟨g,rfl,(Array.getElem?_eq_some_iff.1 hg).1,?_,?_⟩⟩
  all_goals
   rw [Lib.cell_of_heap hg]
  . have h1:=(aaw l k hk).1
    rw [<- ht,List.getElem?_take,if_pos (by omega)] at h1
    simpa using h1
  . have h1:=(aaw l k hk).2
    rw [<- ht,List.getElem?_take,if_pos (by omega)] at h1
    simpa using h1
open OctW
theorem ag1 {l:List (List UInt8×Nat)} {n:List UInt8} {q:Int} (h:o9 l n q=0):l.length < 6:=by
 unfold o9 at h
 split at h
 . cases h
 ·
  split at h
  . cases h
  ·
   split at h
   . cases h
   . split at h
     . cases h
     . omega
end TopW
namespace StoW
open Go.RowKit Go.MapKept OctMath RecMath RecW TapeMath DskW SegW MapG TapeW PendW
structure Lasts (base B:Nat) (w w':World) (D:DiskD) (its:List TapeMath.Item) (b:Nat) (T:TapeD):Prop where
 tape:TapeAt base w' T
 its:T.its=its
 b:T.R.b=b
 syn:T.R.synced=T.R.e
 waits:T.D.waits=[]
 quiet:Quiet T.D
 dblk:T.D.blk=D.blk
 dfoot:∀ k,T.D.foot k↔D.foot k
 find:∀ n,(T.D.find n).isSome=(D.find n).isSome
 room:T.D.room=D.room
 fresh:∀ k,T.O.foot k\/T.R.foot k->w.heap.size<=k
 mod:Mod (λk=>D.foot k\/k=B) w w'
 kept:∀ n f,D.find n=some f->∃ f',T.D.find n=some f'/\f'.now=f.now
theorem Lasts.of {base B:Nat} {w w':World} {D:DiskD} {its:List TapeMath.Item} {b:Nat} {T:TapeD} (h:anu base w w' D its b T):Lasts base B w w' D its b T :=
 { h with mod:=h.mod.mono λk _ hk=>.inl hk }
theorem Lasts.then {base B:Nat} {w w' w2:World} {D:DiskD} {its:List TapeMath.Item} {b:Nat} {T:TapeD} (h:Lasts base B w w' D its b T) (hm:Mod (λk=>k=B) w' w2) (hB:B < w.heap.size) (hBD:¬ D.foot B):Lasts base B w w2 D its b T :=
 { h with
  tape:=h.tape.mod hm λk hk e=>by
   subst e
   rcases hk with h2 | h2 | h2
   . have:=h.fresh _ (.inl h2); omega
   . exact hBD ((h.dfoot _).1 h2)
   . have:=h.fresh _ (.inr h2); omega
  mod:=h.mod.trans (hm.mono λk _ hk=>.inr hk) }
theorem Lasts.none {base B:Nat} {w w':World} {D:DiskD} {its:List TapeMath.Item} {b:Nat} {T:TapeD} (h:Lasts base B w w' D its b T) {n:List UInt8} (hn:D.find n=none):T.D.find n=none:=by
 have:=h.find n;rw [hn] at this
 cases hf:T.D.find n with
 | none=>rfl
 | some f=>rw [hf] at this; cases this
theorem al0 {M:Nat->Prop} {u v:World} (h:Mod M u v) {b:Nat} {o:Obj} (hb:u.heap[b]?=some o) (hM:¬ M b):v.heap[b]?=some o :=
 (h.block b (Array.getElem?_eq_some_iff.1 hb).1 hM).trans hb
theorem Lasts.own {w:World} {n k sz:Nat} {e:TypeId} {v:Value} {xs:List Value} (h:w.ownsRow n e sz v k xs) {g:Nat} (hg:v.ownBlock=some g):n<=g/\∃ cur,w.heap[g]?=some (.cells cur e (0,0)):=by
 rcases h.2 with ⟨rfl,_⟩ | ⟨g',cap,cur,rfl,hb,h,_⟩
 . cases hg
 . injection hg with hg
   subst hg;exact ⟨hb,cur,h⟩
def ag2 (D:DiskD) (tl:List (List UInt8×Nat)):Prop:=D.find TopW.jg=none/\tl=[]
theorem ai8 {base:Nat} {D:DiskD} (tl:List (List UInt8×Nat)) (w:World) (h:DiskAt base w D) (hup:D.down=false) (hl:ag2 D tl) :
 Calls Tryz.prog 84 #[.pointer (some ⟨D.blk,0,none⟩)] w λe w'=>∃ b v,e=.returned (.tuple #[.pointer (some ⟨b,0,none⟩),.int .i64 0])/\Below w.heap.size w w'/\w.heap.size<=b/\w'.heap[b]?=some (.cells #[.pointer (some ⟨D.blk,0,none⟩),v] 113 (0,0))/\w'.ownsRow w.heap.size 111 2 v tl.length (TopW.iw tl):=by
 obtain ⟨A,rfl⟩:=hl;exact (TopW.agx w h hup A).mono λe w' ⟨b,k1,B,E,F⟩=>⟨b,_,k1,B,E,F,⟨rfl,.inl ⟨rfl,rfl⟩⟩⟩
theorem Lasts.tab {base B:Nat} {w w':World} {D:DiskD} {its:List TapeMath.Item} {b:Nat} {T:TapeD} (h:Lasts base B w w' D its b T) {tl:List (List UInt8×Nat)} (hl:ag2 D tl):ag2 T.D tl:=⟨h.none hl.1,hl.2⟩
def PB (b3 b4:Nat) (v:Value) (k:Nat):Prop:=k=b3\/k=b4\/v.ownBlock=some k
structure Pair (w:World) (n b3 b4 dk:Nat) (v:Value) (tl:List (List UInt8×Nat)) (T:TapeD):Prop where
 t:w.heap[b3]?=some (.cells #[.pointer (some ⟨dk,0,none⟩),v] 113 (0,0))
 r:w.ownsRow n 111 2 v tl.length (TopW.iw tl)
 g:w.heap[b4]?=some (.cells #[.pointer (some ⟨dk,0,none⟩),.slice none 0 0] 243 (0,0))
 lo:n<=b3/\n<=b4/\b3≠b4
 away:∀ k,T.foot k->¬ PB b3 b4 v k
theorem Pair.lo_all {w:World} {n b3 b4 dk:Nat} {v:Value} {tl:List (List UInt8×Nat)} {T:TapeD} (h:Pair w n b3 b4 dk v tl T) {k:Nat} (hk:PB b3 b4 v k):n<=k/\k < w.heap.size:=by
 rcases hk with e | e | e
 . exact ⟨e ▸ h.lo.1,e ▸ (Array.getElem?_eq_some_iff.1 h.t).1⟩
 . exact ⟨e ▸ h.lo.2.1,e ▸ (Array.getElem?_eq_some_iff.1 h.g).1⟩
 . obtain ⟨h1,cur,A⟩:=Lasts.own h.r e
   exact ⟨h1,(Array.getElem?_eq_some_iff.1 A).1⟩
theorem Pair.own {w:World} {n b3 b4 dk:Nat} {v:Value} {tl:List (List UInt8×Nat)} {T:TapeD} (h:Pair w n b3 b4 dk v tl T) {k:Nat} (hk:v.ownBlock=some k):k≠b3/\k≠b4:=by
 obtain ⟨_,cur,A⟩:=Lasts.own h.r hk;refine ⟨λe=>?_,λe=>?_⟩
 ·
  rw [e,h.t] at A;injection A with A
  injection A with _ A
  exact absurd A (by decide)
 ·
  rw [e,h.g] at A;injection A with A
  injection A with _ A
  exact absurd A (by decide)
theorem Pair.mod {w w':World} {n b3 b4 dk:Nat} {v:Value} {tl:List (List UInt8×Nat)} {T:TapeD} {M:Nat->Prop} (h:Pair w n b3 b4 dk v tl T) (hm:Mod M w w') (hM:∀ k,PB b3 b4 v k->¬ M k):Pair w' n b3 b4 dk v tl T :=
 { h with t:=(hm.block _ (Array.getElem?_eq_some_iff.1 h.t).1 (hM _ (.inl rfl))).trans h.t,g:=(hm.block _ (Array.getElem?_eq_some_iff.1 h.g).1 (hM _ (.inr (.inl rfl)))).trans h.g,r:=SegW.ownsRow_mod h.r hm λk hk=>hM k (.inr (.inr hk)) }
theorem ag3 {base B:Nat} {D:DiskD} {R:SegD} {its:List TapeMath.Item} (v1 v2 v5 v6 v7 v8 v9:Value) (now:Int) (w:World) (h0n:R.n=0) (h0:its=[]) (hB:w.heap[B]?=some (.cells #[.pointer none,v1,v2,.pointer none,.pointer none,v5,v6,v7,v8,v9,.pointer (some ⟨D.blk,0,none⟩),.int .i64 now] 63 (0,0))) (hBD:¬ D.foot B)
 (hL:LaidOn D R) (hD:DiskAt base w D) (hq:Quiet D) (hfl:D.files.length<=1048576) (hnl:∀ p∈D.files,p.1.length<=1073741824) (hbase:base<=w.heap.size) (hT:TabB base w)
 (hh:R.head=ol) (hs:R.size=1024) (ht:R.txt=fu its) (hf:Fits R.b its) (hil:its.length<=1000000) (hwt:D.waits=[]) {tl:List (List UInt8×Nat)} (hn1:ag2 D tl) (hn2:D.find TopW.acs=none) :
 Calls Tryz.prog 42 #[.pointer (some ⟨B,0,none⟩)] w λe w'=>e=.returned (.int .i64 0)/\∃ T A b4 v,Lasts base B w w' D its R.b T/\Pair w' w.heap.size A b4 D.blk v tl T /\
  w'.heap[B]?=some (.cells #[.pointer (some ⟨T.O.blk,0,none⟩),v1,v2,.pointer (some ⟨A,0,none⟩),.pointer (some ⟨b4,0,none⟩),v5,v6,v7,v8,v9,.pointer (some ⟨D.blk,0,none⟩),.int .i64 now] 63 (0,0)):=by
 have ar:=zq (alk w h0n h0 hL hD hq hfl hnl hbase hT hh hs ht hf hil hwt);have HB:=zq hB;have bp:=aa hB 10 _ rfl;have f0:=aj hB 0;have HD:=zq hD;have E:=zq hBD;have br:=zq hn1;have bs:=zq hn2;have F:=(Array.getElem?_eq_some_iff.1 hB).1;clear hB hL hD hq hfl hnl hbase hT hh hs ht hf hil hwt hn1 hn2 hBD;go_enter Tryz.func42,Tryz.ntmps42;go_wp2_with fail;refine ar.o.mono ?_;rintro e w2 ⟨T,rfl,Z⟩;have HO:=zq Z;have N:w2.heap[B]?=_:=(Z.mod.block B F E.o).trans HB.o;have bw:=zq N;have d0:=aa N 0 _ rfl;have bz:=aa N 10 _ rfl;have b0:=aj N 0;have I:Lasts base B w (w2.setCell ⟨B,0,none⟩ (.pointer (some ⟨T.O.blk,0,none⟩))) D its R.b T:=(Lasts.of Z).then ((Mod.refl (λk=>k=B) w2).setCell (.inl rfl) _) F E.o
 have ab:=zq I;have av:=zq (heap_setCell_same w2 B 0 _ _ (.pointer (some ⟨T.O.blk,0,none⟩)) bw.o);have am:=zq (ai8 tl _ I.tape.whole.dsk I.quiet.up (I.tab br.o));rw [I.dblk] at am;clear Z N ar bp f0 I;go_wp2_with fail;refine am.o.mono ?_;rintro e w4 ⟨A,tv,rfl,an,a6,a7,ac⟩;have ao:=ab.o.then (Mod.of_below (M:=λk=>k=B) an) F E.o
 have cf:=zq ao;have U:w4.heap[B]?=_:=(an.block B (Array.getElem?_eq_some_iff.1 av.o).1).trans av.o;have b1:=zq U;have e3:=aa U 3 _ rfl;have b2:=aa U 10 _ rfl;have b5:=aj U 3;have J:Lasts base B w (w4.setCell ⟨B,3,none⟩ (.pointer (some ⟨A,0,none⟩))) D its R.b T:=ao.then ((Mod.refl (λk=>k=B) w4).setCell (.inl rfl) _) F E.o
 have ap:=zq J;have a8:=zq (heap_setCell_same w4 B 3 _ _ (.pointer (some ⟨A,0,none⟩)) b1.o);have ak:w.heap.size<=(w2.setCell ⟨B,0,none⟩ (.pointer (some ⟨T.O.blk,0,none⟩))).heap.size:=ab.o.mod.size;have ba:A≠B:=by omega
 have b6:Zq ((w4.setCell ⟨B,3,none⟩ (.pointer (some ⟨A,0,none⟩))).ownsRow w.heap.size 111 2 tv tl.length (TopW.iw tl)/\∀ k,tv.ownBlock=some k->(w2.setCell ⟨B,0,none⟩ (.pointer (some ⟨T.O.blk,0,none⟩))).heap.size<=k):=⟨SegW.ownsRow_mod (agq ac ak) ((Mod.refl (λk=>k=B) w4).setCell (a:=⟨B,3,none⟩) (.inl rfl) _) (λk hk e=>by have:=ay ac k hk; omega),λk hk=>ay ac k hk⟩;have bb:Zq ((w4.setCell ⟨B,3,none⟩ (.pointer (some ⟨A,0,none⟩))).heap[A]?=some (.cells #[.pointer (some ⟨D.blk,0,none⟩),tv] 113 (0,0))):=al0 ((Mod.refl (λk=>k=B) w4).setCell (.inl rfl) _) a7 ba;have H3:Zq ((∀ k,T.foot k->k < A)/\w.heap.size<=A/\A < (w4.setCell ⟨B,3,none⟩ (.pointer (some ⟨A,0,none⟩))).heap.size):=⟨λk hk=>Nat.lt_of_lt_of_le (ab.o.tape.lt hk) a6,by omega,(Array.getElem?_eq_some_iff.1 bb.o).1⟩;have X:=zq (TopW.agy _ J.tape.whole.dsk J.quiet.up (J.none bs.o));rw [J.dblk] at X;clear an ao U am d0 bz b0 J a6 a7 ak ba ac;go_wp2_with fail;refine X.o.mono ?_;rintro e w6 ⟨b4,rfl,Y,bc,bd⟩;have bh:=ap.o.then (Mod.of_below (M:=λk=>k=B) Y) F E.o
 have b7:=zq bh;have ad:w6.heap[B]?=_:=(Y.block B (Array.getElem?_eq_some_iff.1 a8.o).1).trans a8.o;have b8:=zq ad;have bj:=bb.o;have h3:=H3.o;have h6:=ap.o.mod.size;have b9:b4≠B:=by omega
 obtain ⟨r3,bk⟩:=b6.o;have bl:∀ k,T.foot k->k < (w2.setCell ⟨B,0,none⟩ (.pointer (some ⟨T.O.blk,0,none⟩))).heap.size:=λk hk=>ab.o.tape.lt hk
 have cb:Zq (Pair (w6.setCell ⟨B,4,none⟩ (.pointer (some ⟨b4,0,none⟩))) w.heap.size A b4 D.blk tv tl T):=Pair.mod (M:=λk=>k=B) ⟨(Y.block A h3.2.2).trans bj,SegW.ownsRow_mod r3 (Mod.of_below (M:=λ_=>False) Y) (λ_ _ h=>h),bd,⟨h3.2.1,by omega,by omega⟩,λk hk h=>by
  rcases h with h | h | h
  . have:=h3.1 k hk; omega
  . have:=ap.o.tape.lt hk; omega
  . have:=bl k hk; have:=bk k h; omega⟩ ((Mod.refl (λk=>k=B) w6).setCell (.inl rfl) _) (λk hk e=>by
  rcases hk with h | h | h
  . omega
  . omega
  . have:=ay r3 k h; omega)
 clear r3 bk bl;clear bj h3 h6 b9 bc bd;have g4:=aa ad 4 _ rfl;have ck:=aj ad 4;clear Y bh ad X e3 b2 b5;go_wp2_with fail;go_ret;exact ⟨rfl,T,A,b4,tv,b7.o.then ((Mod.refl (λk=>k=B) w6).setCell (.inl rfl) _) F E.o,cb.o,heap_setCell_same _ B 4 _ _ _ b8.o⟩
theorem ai9 {base B:Nat} {D:DiskD} {cs:Array Value} (w:World) (hB:w.heap[B]?=some (.cells cs 63 (0,0))) (hc:cs[10]?=some (.pointer (some ⟨D.blk,0,none⟩))) (h:DiskAt base w D) (hup:D.down=false) (hn:D.find TopW.agw=none) :
 Calls Tryz.prog 43 #[.pointer (some ⟨B,0,none⟩)] w λe w'=>e=.returned (.int .i64 0)/\Below w.heap.size w w':=by
 have E:=zq (TopW.acf w h hup hn);have A:=aa hB 10 _ hc;clear hB hc h hup hn;go_enter Tryz.func43,Tryz.ntmps43;go_wp2_with fail;refine E.o.mono ?_;rintro e w2 ⟨rfl,hb⟩;have F:Zq (Below w.heap.size w (w2.alloc (.cells #[.int .i64 0,.slice none 0 0] 127))):=hb.alloc hb.size _;clear hb E A;go_wp2_with fail;go_ret;exact ⟨rfl,F.o⟩
end StoW
namespace CqW
open Go.RowKit Go.MapKept OctMath DskW SegW MapG CacheW
def ars (v:Value):Prop:=∃ (t:List UInt8) (q:Int),v=.agg #[.string (S t),.int .i64 q]
theorem al1 (s t:List UInt8) (a b:Int) (w:World):(Op.equal 210 (.agg #[.string (S s),.int .i64 a]) (.agg #[.string (S t),.int .i64 b])).run Tryz.prog w=.ok (decide (s=t) && a == b) w:=by
 have E:Tryz.prog.stoodInHeld 210=false:=by kernel_rfl
 have M:∀ x y:Int,(Op.equalIn 9999 3 (.int .i64 x) (.int .i64 y)).run Tryz.prog w=.ok (x == y) w:=λx y=>run_equalIn_int _ 9998 _ _ _ _ _ Tryz.underlying3
 have A:∀ x y:ByteArray,(Op.equalIn 9999 9 (.string x) (.string y)).run Tryz.prog w=.ok (x == y) w:=λx y=>by
  show (Op.equalIn (9998+1) _ _ _).run _ _=_;unfold Op.equalIn;simp [run_underlying Tryz.underlying9,Result.andThen]
 have F:∀ w,Sem.run Tryz.prog program w=.ok Tryz.prog w:=λ_=>rfl
 have I:(isAgg 3).run Tryz.prog w=.ok false w:=by kernel_rfl
 have J:(isAgg 9).run Tryz.prog w=.ok false w:=by kernel_rfl
 have B:(S s == S t)=decide (s=t):=by
  rw [Bool.eq_iff_iff,bytes_beq,decide_eq_true_iff];exact ⟨λh=>OctMath.S_inj h,λh=>by rw [h]⟩
 unfold Op.equal Op.maxDepth;show (Op.equalIn (9999+1) _ _ _).run _ _=_;unfold Op.equalIn;simp [go_sem,run_underlying Tryz.underlying210,Result.andThen,F,E,I,J,M,A,B]
 by_cases h1:s=t <;> by_cases h2:a=b <;> simp [h1,h2,M,A,B]
theorem aja:Keyed Tryz.prog 210 ars:=by
 refine Keyed.of_equal Tryz.underlying210 ?_ ?_ ?_ ?_
 . rintro _ _ ⟨s,a,rfl⟩ ⟨t,b,rfl⟩; rfl
 ·
  rintro _ _ ⟨s,a,rfl⟩ ⟨t,b,rfl⟩ w;refine ⟨_,al1 s t a b w,?_⟩;simp only [Bool.and_eq_true,decide_eq_true_eq,beq_iff_eq]
  constructor
  . rintro ⟨rfl,rfl⟩; rfl
  ·
   intro h;injection h with h
   injection h with h
   injection h with h1 A
   injection h1 with h1
   injection A with A _
   injection A with _ A
   exact ⟨OctMath.S_inj h1,A⟩
 ·
  rintro _ ⟨s,a,rfl⟩ e w;have c1:(Instr.checkKey e 9999 9 (.string (S s))).run Tryz.prog w=.ok () w:=Go.MapKept.run_checkKey Tryz.underlying9 (k:=.string (S s)) trivial e 9998;have c2:(Instr.checkKey e 9999 3 (.int .i64 a)).run Tryz.prog w=.ok () w:=Go.MapKept.run_checkKey Tryz.underlying3 (k:=.int .i64 a) rfl e 9998;have B:(isAgg 3).run Tryz.prog w=.ok false w:=by kernel_rfl
  have E:(isAgg 9).run Tryz.prog w=.ok false w:=by kernel_rfl
  show (Instr.checkKey e (9999+1) _ _).run _ _=_;unfold Instr.checkKey;simp [go_sem,run_underlying Tryz.underlying210,Result.andThen,B,E,c1,c2]
 ·
  rintro _ ⟨s,a,rfl⟩;show Instr.sameBits (9999+1) _ _=true;unfold Instr.sameBits;have h1:Instr.sameBits 9999 (.string (S s)) (.string (S s))=true:=sameBits_self (d:=.string) (k:=.string (S s)) trivial 9999;have A:Instr.sameBits 9999 (.int .i64 a) (.int .i64 a)=true:=sameBits_self (d:=.int .i64) (k:=.int .i64 a) rfl 9999;simp [h1,A]
end CqW
namespace EntW
open Go.RowKit OctW OctMath
def Wid (w:World) (a:Option Addr) (ws:List (Nat×Int)):Prop:=∀ i (h:i < ws.length),∃ b off,a=some ⟨b,off,none⟩/\w.cell? ⟨b,off+i * 2,none⟩=some (.int .i64 (ws[i].1:Int))/\w.cell? ⟨b,off+i * 2+1,none⟩=some (.int .i64 ws[i].2)
def zi (ws:List (Nat×Int)):List UInt8:=ws.flatMap λp=>be p.1 p.2.toNat
def aai (ws:List (Nat×Int)):Bool:=decide (∀ p∈ws,fits p.1 p.2)
def acm (ws:List (Nat×Int)):List UInt8:=if aai ws then zi ws else []
theorem al2 (ws:List (Nat×Int)) (k:Nat) (h:k < ws.length):zi (ws.take (k+1))=zi (ws.take k)++be ws[k].1 ws[k].2.toNat:=by
 unfold zi; rw [List.take_succ_eq_append_getElem h,List.flatMap_append]; simp
theorem apy:∀ (ws:List (Nat×Int)),(∀ p∈ws,p.1<=7)->(zi ws).length<=7 * ws.length:=by
 intro ws
 induction ws with
 | nil=>intro _; simp [zi]
 | cons p ws ih =>
   intro h;have h1:=h p (List.mem_cons_self ..);have B:=ih (λq A=>h q (List.mem_cons_of_mem _ A));have:zi (p :: ws)=be p.1 p.2.toNat++zi ws:=by simp [zi]
   rw [this,List.length_append,bf,List.length_cons]; omega
theorem abg (n:Nat) (x:Int) (h1:1<=n) (h7:n<=7):ma (n:Int) [x]=if fits n x then (be n x.toNat,0) else ([],2):=by
 unfold ma;rw [if_neg (by omega)];have:(∀ y∈[x],fits ((n:Int)).toNat y)↔fits n x:=by simp
 by_cases h:fits n x
 . rw [if_pos (this.2 h),if_pos h]; simp [numsL]
 . rw [if_neg (λA=>h (this.1 A)),if_neg h]
theorem put_any (a:Option Addr) (cap:Nat) (ws:List (Nat×Int)) (hl:ws.length<=16) (J:∀ p∈ws,1<=p.1/\p.1<=7) (hx:∀ p∈ws,-9223372036854775808<=p.2/\p.2<=9223372036854775807) (W:World) (h:Wid W a ws) :
 Calls Tryz.prog 193 #[.slice a ws.length cap] W λe w'=>e=.returned (.tuple #[.string (S (acm ws)),.bool (aai ws)])/\Below W.heap.size W w':=by
 have HI:=zq h;have HW:=zq J;have HX:=zq hx;clear h J hx;go_enter Tryz.func193,Tryz.ntmps193;go_wp2_with fail;go_loopw [4,11] (λs i wr=>∃ k:Nat,k<=ws.length/\i=.int .i64 k/\s=.string (S (zi (ws.take k)))/\Zq (Below W.heap.size W wr)/\Zq (∀ p∈ws.take k,fits p.1 p.2)) (λ_ i _=>ws.length - (intOf i).toNat)
 case atStart=>exact ⟨0,by omega,rfl,rfl,Below.refl _ _,by simp [Zq]⟩
 case round =>
  obtain ⟨k,hk,rfl,rfl,B,HA⟩:=hrel
  by_cases hlt:k < ws.length
  ·
   obtain ⟨b,off,rfl,M,N⟩:=HI.o k hlt;rw [<- B.o.cell (bq M)] at M;rw [<- B.o.cell (bq N)] at N;have ak:=HW.o ws[k] (by simp);have al:=HX.o ws[k] (by simp);have O:=al2 ws k hlt;have R:∀ y,y∈ws.take (k+1)↔y∈ws.take k\/y=ws[k]:=by intro y; rw [List.take_succ_eq_append_getElem hlt,List.mem_append,List.mem_singleton]
   have E:ws[k]∈ws:=by simp
   have F:=apy (ws.take k) (λp hp=>(HW.o p (List.mem_of_mem_take hp)).2);rw [List.length_take] at F;generalize ws[k]=p at *
   obtain ⟨n,x⟩:=p;simp only at *
   obtain ⟨am,an⟩:=ak;obtain ⟨a6,a7⟩:=al;have ao:=zq O;have ap:=zq R;have U:=zq E;clear O R E;go_wp2_with fail
   have A:Ints ((wr.alloc (.cells #[.int .i64 (n:Int),.int .i64 x] 291)).alloc (.cells #[.int .i64 x] 3)) (some ⟨wr.heap.size+1,0,none⟩) [x]:=by
    intro i hi;have:i=0:=by simpa using hi
    subst this;refine ⟨_,_,rfl,?_⟩;have:=World.cell?_alloc_new (wr.alloc (.cells #[.int .i64 (n:Int),.int .i64 x] 291)) #[.int .i64 x] 3 0;simp only [World.size_alloc] at this;rw [this]; rfl
   have I:Zq (Below W.heap.size W ((wr.alloc (.cells #[.int .i64 (n:Int),.int .i64 x] 291)).alloc (.cells #[.int .i64 x] 3))):=(B.o.alloc B.o.size _).alloc (B.o.alloc B.o.size _).size _
   refine (nums_any (n:Int) (by omega) (by omega) _ 1 [x] (by simp) (λy X=>by
    have:y=x:=by simpa using X
    omega) _ A).mono ?_
   rintro e w3 ⟨rfl,Y⟩;have Z:Zq (Below W.heap.size W w3):=I.o.trans (Y.mono I.o.size);rw [abg n x am an];clear Y B I A
   by_cases hf:fits n x
   ·
    rw [if_pos hf];have HF:=zq hf;have bb:(S (zi (ws.take k))).size<=200:=by rw [ah]; omega
    have bc:(S (be n x.toNat)).size<=7:=by rw [ah,bf]; omega
    have ab:Zq (S (zi (ws.take k))++S (be n x.toNat)=S (zi (ws.take (k+1)))):=by rw [gm,ao.o]; rfl
    generalize S (zi (ws.take k))=s1 at *
    generalize S (be n x.toNat)=s2 at *
    clear hf F;go_wp2_with fail;rw [ab.o];go_wp2_with fail;go_roundw
    case rel =>
     refine ⟨k+1,by omega,by go_num,rfl,Z,λy X=>?_⟩
     rcases (ap.o y).1 X with X | rfl
     . exact HA.o y X
     . exact HF.o
    case measure=>simp [intOf]; omega
   ·
    rw [if_neg hf];have ho:Zq (aai ws=false):=decide_eq_false (λh=>hf (h _ U.o));have J:Zq (acm ws=[]):=by show _=_; unfold acm; rw [ho.o]; rfl
    clear hf F;go_wp2_with fail;go_ret2;rw [ho.o,J.o];exact ⟨rfl,Z.o⟩
  ·
   have ek:k=ws.length:=by omega
   subst ek;rw [List.take_length] at HA;rw [List.take_length];have ho:Zq (aai ws=true):=decide_eq_true HA.o;have J:Zq (acm ws=zi ws):=by show _=_; unfold acm; rw [ho.o]; rfl
   go_wp2_with fail;go_ret2;rw [ho.o,J.o];exact ⟨rfl,B.o⟩
def lq (a b c d:Int):List (Nat×Int):=[(6,a),(2,b),(5,c),(7,d)]
theorem al3 (a b c d:Int) (ha : -9223372036854775808<=a/\a<=9223372036854775807) (hb : -9223372036854775808<=b/\b<=9223372036854775807) (hc : -9223372036854775808<=c/\c<=9223372036854775807) (hd : -9223372036854775808<=d/\d<=9223372036854775807) (W:World) :
 Calls Tryz.prog 131 #[.agg #[.int .i64 a,.int .i64 b,.int .i64 c,.int .i64 d]] W λe w'=>e=.returned (.tuple #[.string (S (acm (lq a b c d))),.bool (aai (lq a b c d))])/\Below W.heap.size W w':=by
 have M:Zq (∀ p∈lq a b c d,-9223372036854775808<=p.2/\p.2<=9223372036854775807):=by
  intro p hp;simp only [lq,List.mem_cons,List.not_mem_nil,or_false] at hp
  rcases hp with rfl | rfl | rfl | rfl <;> assumption
 clear ha hb hc hd;go_enter Tryz.func131,Tryz.ntmps131;go_wp2_with fail;generalize hw1:(W.alloc (.cells #[.int .i64 a,.int .i64 b,.int .i64 c,.int .i64 d] 136))=w1 at *
 have N:w1.heap.size=W.heap.size+1:=by rw [<- hw1]; simp
 have J:Zq (Below W.heap.size W w1):=by rw [<- hw1]; exact (Below.refl _ W).alloc (Nat.le_refl _) _
 clear hw1;rw [<- N]
 have A:Wid (w1.alloc (.cells #[.int .i64 6,.int .i64 a,.int .i64 2,.int .i64 b,.int .i64 5,.int .i64 c,.int .i64 7,.int .i64 d] 291)) (some ⟨w1.heap.size,0,none⟩) (lq a b c d):=by
  intro i E;have E:i < 4:=E;refine ⟨_,_,rfl,?_,?_⟩
  iterate 2
   ·
    rw [World.cell?_alloc_new]
    match i,E with
    | 0,_=>rfl
    | 1,_=>rfl
    | 2,_=>rfl
    | 3,_=>rfl
 have B:Zq (Below W.heap.size W (w1.alloc (.cells #[.int .i64 6,.int .i64 a,.int .i64 2,.int .i64 b,.int .i64 5,.int .i64 c,.int .i64 7,.int .i64 d] 291))):=J.o.alloc J.o.size _;refine (put_any _ 4 (lq a b c d) (by simp [lq]) (by intro p hp; simp only [lq,List.mem_cons,List.not_mem_nil,or_false] at hp; rcases hp with rfl | rfl | rfl | rfl <;> exact ⟨by simp,by simp⟩) M.o _ A).mono ?_;clear A;rintro e w2 ⟨rfl,F⟩;have I:Zq (Below W.heap.size W w2):=B.o.trans (F.mono B.o.size);go_wp2_with fail;go_ret2;exact ⟨rfl,I.o⟩
def nz (a b c d:Int):List (Nat×Int):=[(5,a),(6,b),(6,c),(3,d)]
theorem an4 (a b c d:Int) (ha : -9223372036854775808<=a/\a<=9223372036854775807) (hb : -9223372036854775808<=b/\b<=9223372036854775807) (hc : -9223372036854775808<=c/\c<=9223372036854775807) (hd : -9223372036854775808<=d/\d<=9223372036854775807) (W:World) :
 Calls Tryz.prog 137 #[.agg #[.int .i64 a,.int .i64 b,.int .i64 c,.int .i64 d]] W λe w'=>e=.returned (.tuple #[.string (S (acm (nz a b c d))),.bool (aai (nz a b c d))])/\Below W.heap.size W w':=by
 have M:Zq (∀ p∈nz a b c d,-9223372036854775808<=p.2/\p.2<=9223372036854775807):=by
  intro p hp;simp only [nz,List.mem_cons,List.not_mem_nil,or_false] at hp
  rcases hp with rfl | rfl | rfl | rfl <;> assumption
 clear ha hb hc hd;go_enter Tryz.func137,Tryz.ntmps137;go_wp2_with fail;generalize hw1:(W.alloc (.cells #[.int .i64 a,.int .i64 b,.int .i64 c,.int .i64 d] 221))=w1 at *
 have N:w1.heap.size=W.heap.size+1:=by rw [<- hw1]; simp
 have J:Zq (Below W.heap.size W w1):=by rw [<- hw1]; exact (Below.refl _ W).alloc (Nat.le_refl _) _
 clear hw1;rw [<- N]
 have A:Wid (w1.alloc (.cells #[.int .i64 5,.int .i64 a,.int .i64 6,.int .i64 b,.int .i64 6,.int .i64 c,.int .i64 3,.int .i64 d] 291)) (some ⟨w1.heap.size,0,none⟩) (nz a b c d):=by
  intro i E;have E:i < 4:=E;refine ⟨_,_,rfl,?_,?_⟩
  iterate 2
   ·
    rw [World.cell?_alloc_new]
    match i,E with
    | 0,_=>rfl
    | 1,_=>rfl
    | 2,_=>rfl
    | 3,_=>rfl
 have B:Zq (Below W.heap.size W (w1.alloc (.cells #[.int .i64 5,.int .i64 a,.int .i64 6,.int .i64 b,.int .i64 6,.int .i64 c,.int .i64 3,.int .i64 d] 291))):=J.o.alloc J.o.size _;refine (put_any _ 4 (nz a b c d) (by simp [nz]) (by intro p hp; simp only [nz,List.mem_cons,List.not_mem_nil,or_false] at hp; rcases hp with rfl | rfl | rfl | rfl <;> exact ⟨by simp,by simp⟩) M.o _ A).mono ?_;clear A;rintro e w2 ⟨rfl,F⟩;have I:Zq (Below W.heap.size W w2):=B.o.trans (F.mono B.o.size);go_wp2_with fail;go_ret2;exact ⟨rfl,I.o⟩
end EntW
namespace CqW
open Go.RowKit Go.MapKept OctMath DskW SegW MapG CacheW
theorem ag4 (t:List UInt8) (q:Nat) (ht:NameMath.lc t=true) (hl:t.length<=1073741824) (hq:q < 3) (w:World) :
 Calls Tryz.prog 130 #[.string (S t),.int .i64 (q:Int)] w λe w'=>e=.returned (.int .i64 0)/\Below w.heap.size w w':=by
 have A:=zq (NameW.abw t (by omega) w);rw [ht] at A;clear ht;go_enter Tryz.func130,Tryz.ntmps130;go_wp2_with fail;refine A.o.mono ?_;rintro e w1 ⟨rfl,hb⟩;have B:=zq hb;clear hb A;go_wp2_with fail;go_ret;exact ⟨rfl,B.o⟩
def jy (t:List UInt8) (q:Nat):List UInt8:=[113,45]++t++[46]++Lib.decDigits q++[45]
def ab2 (db:Nat) (hd:List UInt8):SegD:=⟨0,db,hd,200,0,0,[],0,.slice none 0 0⟩
theorem al4 {D:DiskD} {hd:List UInt8} (hl:hd.length<=1048576) (ho:∀ p,p<=99999999->D.find (af hd p)=none):LaidOn D (ab2 D.blk hd) :=
 ⟨⟨by show 16<=200; decide,by show 200<=4096; decide⟩,λ_=>⟨rfl,rfl⟩,λh=>absurd h (Nat.lt_irrefl 0),rfl,hl,λi A=>absurd A (Nat.not_lt_zero _),λp hp _=>ho p hp,rfl⟩
def fT (blk:Nat):Value:=.tuple #[.pointer (some ⟨blk,0,none⟩),.int .i64 0]
def fP (blk:Nat):Value:=.pointer (some ⟨blk,0,none⟩)
def OpenF (base:Nat) (W:World) (D:DiskD) (db:Nat) (hd:List UInt8) (f:Nat->Value) (v:Value) (w:World):Prop:=∃ blk pv,v=f blk/\Whole base w D ((ab2 db hd).openR blk pv)/\∀ k,((ab2 db hd).openR blk pv).foot k->W.heap.size<=k
theorem OpenF.below {base:Nat} {W:World} {D:DiskD} {db:Nat} {hd:List UInt8} {f:Nat->Value} {v:Value} {w w':World} (h:OpenF base W D db hd f v w) (hb:Below w.heap.size w w'):OpenF base W D db hd f v w':=by
 obtain ⟨blk,pv,h1,A,B⟩:=h;exact ⟨blk,pv,h1,A.below hb,B⟩
theorem al5 {base:Nat} {D:DiskD} {C:CqD} (t:List UInt8) (q p:Nat) (W:World) (hC:CqAt base W C) (hD:DiskAt base W D) (hdb:C.db=D.blk) (hq:Quiet D) (hfl:D.files.length<=1048576) (hnl:∀ p∈D.files,p.1.length<=1073741824) (hbase:base<=W.heap.size) (hT:TabB base W)
 (hn:∀ x∈C.qs,x.key≠.agg #[.string (S t),.int .i64 (q:Int)]) (htl:t.length<=1000) (hql:q<=1000) (hp:p<=1099511627776) (ho:∀ m,m<=99999999->D.find (af (jy t q) m)=none) (haw:∀ k,C.foot k->¬ D.foot k) :
 Calls Tryz.prog 132 #[.pointer (some ⟨C.blk,0,none⟩),.agg #[.string (S t),.int .i64 (q:Int)],.int .i64 (p:Int)] W λe w'=>∃ x:QueD,e=.returned (.tuple #[.pointer (some ⟨x.blk,0,none⟩),.int .i64 0])/\x.topic=t/\x.q=(q:Int)/\x.b0=p/\x.least=p /\
  (∃ blk pv,x.R=(ab2 C.db (jy t q)).openR blk pv)/\Whole base w' D x.R/\CqAt base w' { C with qs:=C.qs++[x] }/\Mod (λk=>k=C.mB) W w'/\W.heap.size<=x.blk/\(∀ k,x.R.foot k->W.heap.size<=k/\k≠x.blk):=by
 have bk:(Lib.decDigits q).length<=8:=afd q (by omega);obtain ⟨hd,U⟩:∃ hd,hd=jy t q:=⟨_,rfl⟩;have cn:hd.length<=1048576:=by rw [U]; unfold jy; simp only [List.length_append,List.length_cons,List.length_nil]; omega
 rw [<- U] at ho ⊢;have J:Zq (Below W.heap.size W (W.alloc (.cells #[.string (S t),.int .i64 (q:Int)] 210))):=(Below.refl _ W).alloc (Nat.le_refl _) _;have HK:Zq ((W.alloc (.cells #[.string (S t),.int .i64 (q:Int)] 210)).heap[W.heap.size]?=some (.cells #[.string (S t),.int .i64 (q:Int)] 210 (0,0))):=heap_alloc_new W _;have X:LaidOn D (ab2 C.db hd):=by rw [hdb]; exact al4 cn ho
 have co:=zq X;have HC:=zq hC;have HD:=zq hD;have HQ:=zq hq;have cp:=zq hfl;have cq:=zq hnl;have cr:=zq hT;have HN:=zq hn;have cs:=zq haw;have cv:=zq hdb
 have dt:Zq (S [113,45]++S t++S [46]++S (Lib.decDigits q)++S [45]=S hd):=by
  show _=_;rw [gm,gm,gm,gm,U]; rfl
 obtain ⟨l6,O⟩:∃ l,l=[113,45]++t:=⟨_,rfl⟩;obtain ⟨l7,Z⟩:∃ l,l=l6++[46]:=⟨_,rfl⟩;obtain ⟨ab,N⟩:∃ l,l=l7++Lib.decDigits q:=⟨_,rfl⟩;have bm:Zq (S [113,45]++S t=S l6):=by show _=_; rw [gm,O]
 have bo:Zq (S l6++S [46]=S l7):=by show _=_; rw [gm,Z]
 have ar:Zq (S l7++S (Lib.decDigits q)=S ab):=by show _=_; rw [gm,N]
 have av:Zq (S ab++S [45]=S hd):=by show _=_; rw [gm,U,N,Z,O]; rfl
 have cw:Zq ((S t).size<=1000):=by show _<=_; rw [ah]; exact htl
 have cx:Zq ((S l6).size<=1010):=by show _<=_; rw [ah,O,List.length_append]; simp; omega
 have cy:Zq ((S l7).size+(S (Lib.decDigits q)).size<=1020):=by show _<=_; rw [ah,ah,Z,O]; simp; omega
 have bp:Zq ((S ab).size<=1030):=by show _<=_; rw [ah,N,Z,O]; simp; omega
 clear O Z N;have du:(S t).size<=1000:=by rw [ah]; exact htl
 have dv:(S (Lib.decDigits q)).size<=8:=by rw [ah]; exact bk
 clear X hC hD hdb hq hfl hnl hT hn haw U ho bk htl;go_enter Tryz.func132,Tryz.ntmps132;go_upto_region 1 with fail
 generalize W.alloc (.cells #[.string (S t),.int .i64 (q:Int)] 210)=w1 at *
 obtain ⟨A,hA⟩:∃ A,W.heap.size=A:=⟨_,rfl⟩;rw [hA] at HK ⊢;have c7:=zq hA;clear hA;have a6:Zq (∀ w,Below w1.heap.size w1 w->w.cell? ⟨A,0,none⟩=some (.string (S t))):=λw hb=>by rw [Lib.cell_of_heap ((hb.block A (Array.getElem?_eq_some_iff.1 HK.o).1).trans HK.o)]; rfl
 have a7:Zq (∀ w,Below w1.heap.size w1 w->w.cell? ⟨A,1,none⟩=some (.int .i64 (q:Int))):=λw hb=>by rw [Lib.cell_of_heap ((hb.block A (Array.getElem?_eq_some_iff.1 HK.o).1).trans HK.o)]; rfl
 have am:Zq (∀ w,Below w1.heap.size w1 w->CqAt base w C):=λw hb=>(HC.o.below J.o).below hb
 have br:Zq (∀ w,Below w1.heap.size w1 w->w.cell? ⟨C.blk,0,none⟩=some (.pointer (some ⟨C.db,0,none⟩))):=λw hb=>by rw [Lib.cell_of_heap (am.o w hb).cells]; rfl
 have bs:Zq (∀ w,Below w1.heap.size w1 w->Calls Tryz.prog 194 #[.int .i64 (q:Int)] w λe w'=>e=.returned (.string (S (Lib.decDigits q)))/\Below w.heap.size w w'):=λw hb=>af2 q w ((cr.o.below J.o).below hb).tab (by omega)
 have bw:Zq (∀ w,Below w1.heap.size w1 w->Calls Tryz.prog 149 #[.pointer (some ⟨C.db,0,none⟩),.string (S hd),.int .i64 200] w λe w'=>∃ blk pv,e=.returned (.tuple #[.pointer (some ⟨blk,0,none⟩),.int .i64 0])/\Whole base w' D ((ab2 C.db hd).openR blk pv)/\Below w.heap.size w w'/\∀ k,((ab2 C.db hd).openR blk pv).foot k->w.heap.size<=k):=λw hb=>by
  have:=agc w rfl co.o ((HD.o.below J.o).below hb) HQ.o cp.o cq.o (by have:=J.o.size; have:=hb.size; omega);rw [<- cv.o] at this; exact this
 refine GrowN.au 19 [none,none,none,none,none,none,some (.inl (.string (S l6))),some (.inl (.string (S l7))),none,none,some (.inl (.string (S (Lib.decDigits q)))),some (.inl (.string (S ab))),some (.inl (.string (S hd))),some (.inr (λ_ v w=>OpenF base W D C.db hd fT v w)),some (.inr (λ_ v w=>OpenF base W D C.db hd fT v w)),some (.inr (λ_ v w=>OpenF base W D C.db hd fP v w)),some (.inl (.int .i64 0)),some (.inr (λ_ v w=>OpenF base W D C.db hd fP v w)),some (.inl (.int .i64 0))] (RecW.ExtR) (by kernel_rfl) (by kernel_rfl) (by kernel_rfl) (RecW.ExtR.refl) (λ_ _ _=>RecW.ExtR.trans) ?_ ?_
 ·
  intro K hK Y hY l v w w' hR h;simp only [List.mem_cons,List.not_mem_nil,or_false] at hK
  rcases hK with rfl | rfl | rfl | rfl | rfl | rfl | rfl | rfl | rfl | rfl | rfl | rfl | rfl | rfl | rfl | rfl | rfl | rfl | rfl <;> simp only [reduceCtorEq,Option.some.injEq,Sum.inr.injEq] at hY
  all_goals (
   subst hY;exact h.below hR
   )
 simp only [List.take_succ_cons,List.take_zero,List.drop_succ_cons,List.drop_zero]
 iterate 3
  refine GrowN.g_det rfl ?_;apply Exists.intro;refine ⟨λw E B=>?_,?_⟩
  . clear B
    go_simp;exact ⟨rfl,RecW.ExtR.refl _⟩
  go_frame
 refine GrowN.g_det rfl ?_;apply Exists.intro;refine ⟨λw E B=>?_,?_⟩
 ·
  clear B;have hb:=(Below.refl w1.heap.size w1).drew.trans E;have c0:=br.o w hb;go_simp;exact ⟨rfl,RecW.ExtR.refl _⟩
 go_frame;refine GrowN.g_det rfl ?_;apply Exists.intro;refine ⟨λw E B=>?_,?_⟩
 . clear B
   go_simp;exact ⟨rfl,RecW.ExtR.refl _⟩
 go_frame;refine GrowN.g_det rfl ?_;apply Exists.intro;refine ⟨λw E B=>?_,?_⟩
 ·
  clear B;have hb:=(Below.refl w1.heap.size w1).drew.trans E;have k0:=a6.o w hb;go_simp;exact ⟨rfl,RecW.ExtR.refl _⟩
 go_frame;refine GrowN.g_con rfl (λw E B=>?_) ?_
 ·
  clear B;have hz:¬ 9223372036854775807 < 2+(S t).size:=by have:=cw.o; omega
  go_simp;exact ⟨(by first | exact bm.o | (rw [<- bm.o]; rfl)),RecW.ExtR.refl _⟩
 go_frame;refine GrowN.g_con rfl (λw E B=>?_) ?_
 ·
  clear B;have hz:¬ 9223372036854775807 < (S l6).size+1:=by have:=cx.o; omega
  go_simp;exact ⟨(by first | exact bo.o | (rw [<- bo.o]; rfl)),RecW.ExtR.refl _⟩
 go_frame;refine GrowN.g_det rfl ?_;apply Exists.intro;refine ⟨λw E B=>?_,?_⟩
 . clear B
   go_simp;exact ⟨rfl,RecW.ExtR.refl _⟩
 go_frame;refine GrowN.g_det rfl ?_;apply Exists.intro;refine ⟨λw E B=>?_,?_⟩
 ·
  clear B;have hb:=(Below.refl w1.heap.size w1).drew.trans E;have k1:=a7.o w hb;go_simp;exact ⟨rfl,RecW.ExtR.refl _⟩
 go_frame;refine GrowN.g_con rfl (λw E B=>?_) ?_
 ·
  clear B;have hb:=(Below.refl w1.heap.size w1).drew.trans E;go_simp;exact (bs.o w hb).mono λe w3 h=>⟨_,h.1,rfl,h.2⟩
 go_frame;refine GrowN.g_con rfl (λw E B=>?_) ?_
 ·
  clear B;have hz:¬ 9223372036854775807 < (S l7).size+(S (Lib.decDigits q)).size:=by have:=cy.o; omega
  go_simp;exact ⟨(by first | exact ar.o | (rw [<- ar.o]; rfl)),RecW.ExtR.refl _⟩
 go_frame;refine GrowN.g_con rfl (λw E B=>?_) ?_
 ·
  clear B;have hz:¬ 9223372036854775807 < (S ab).size+1:=by have:=bp.o; omega
  go_simp;exact ⟨(by first | exact av.o | (rw [<- av.o]; rfl)),RecW.ExtR.refl _⟩
 go_frame;refine GrowN.g_new rfl (λw E B=>?_) (λv13=>?_)
 ·
  clear B;have hb:=(Below.refl w1.heap.size w1).drew.trans E;go_simp;exact (bw.o w hb).mono λe w3 ⟨blk,pv,h1,M,h3,h4⟩=>⟨_,h1,⟨blk,pv,rfl,M,λk hk=>Nat.le_trans (Nat.le_trans J.o.size hb.size) (h4 k hk)⟩,h3⟩
 go_frame;refine GrowN.g_new rfl (λw E B=>?_) (λv14=>?_)
 ·
  skip
  obtain ⟨blk,pv,rfl,M,h3⟩:=B _ (.head _) (by kernel_rfl);clear B;go_simp;exact ⟨⟨blk,pv,rfl,M,h3⟩,RecW.ExtR.refl _⟩
 go_frame;refine GrowN.g_new rfl (λw E B=>?_) (λv15=>?_)
 ·
  skip
  obtain ⟨blk,pv,rfl,M,h3⟩:=B _ (.head _) (by kernel_rfl);clear B;go_simp;exact ⟨⟨blk,pv,rfl,M,h3⟩,RecW.ExtR.refl _⟩
 go_frame;refine GrowN.g_con rfl (λw E B=>?_) ?_
 ·
  obtain ⟨blk,pv,rfl,M,h3⟩:=B _ (.tail _ (.head _)) (by kernel_rfl);clear B;unfold fT;go_simp;exact RecW.ExtR.refl _
 go_frame;refine GrowN.g_new rfl (λw E B=>?_) (λv17=>?_)
 ·
  skip
  obtain ⟨blk,pv,rfl,M,h3⟩:=B _ (.head _) (by kernel_rfl);clear B;go_simp;exact ⟨⟨blk,pv,rfl,M,h3⟩,RecW.ExtR.refl _⟩
 go_frame;refine GrowN.g_con rfl (λw E B=>?_) ?_
 . clear B
   go_simp;exact RecW.ExtR.refl _
 go_frame;refine GrowN.g_nil λw2 bz B=>?_
 obtain ⟨rb,pv,rfl,b1,b2⟩:=B _ (.head _);clear B;have a8:=zq ((Below.refl w1.heap.size w1).drew.trans bz);clear bz;unfold fP;have b3:=zq b1;have ao:=zq b2;clear b1 b2 bw bs;go_wp2_with fail;have ba:Below w2.heap.size w2 (w2.alloc (.cells #[.pointer (some ⟨rb,0,none⟩),.int .i64 (p:Int),.int .i64 (p:Int)] 217)):=(Below.refl _ _).alloc (Nat.le_refl _) _;have bb:(w2.alloc (.cells #[.pointer (some ⟨rb,0,none⟩),.int .i64 (p:Int),.int .i64 (p:Int)] 217)).heap[w2.heap.size]?=some (.cells #[.pointer (some ⟨rb,0,none⟩),.int .i64 (p:Int),.int .i64 (p:Int)] 217 (0,0)):=heap_alloc_new w2 _;generalize w2.alloc (.cells #[.pointer (some ⟨rb,0,none⟩),.int .i64 (p:Int),.int .i64 (p:Int)] 217)=w3 at *
 obtain ⟨xb,ap⟩:∃ x,w2.heap.size=x:=⟨_,rfl⟩;rw [ap] at bb ⊢;have I:=zq (a8.o.trans (ba.mono a8.o.size));have b4:=zq bb;have da:=zq ap;have dc:=zq (b3.o.below ba);clear ba bb ap;have b5:Zq (∀ w,Below w3.heap.size w3 w->w.cell? ⟨C.blk,1,none⟩=some (.map (some C.mB))):=λw hb=>by rw [Lib.cell_of_heap (am.o w (I.o.trans (hb.mono I.o.size))).cells]; rfl
 have b6:Zq (∀ w,Below w3.heap.size w3 w->w.cell? ⟨A,0,none⟩=some (.string (S t))/\w.cell? ⟨A,1,none⟩=some (.int .i64 (q:Int))):=λw hb=>⟨a6.o w (I.o.trans (hb.mono I.o.size)),a7.o w (I.o.trans (hb.mono I.o.size))⟩
 refine GrowN.au 6 [none,none,none,none,some (.inl (.agg #[.string (S t),.int .i64 (q:Int)])),none] (RecW.ExtR) (by kernel_rfl) (by kernel_rfl) (by kernel_rfl) (RecW.ExtR.refl) (λ_ _ _=>RecW.ExtR.trans) ?_ ?_
 . exact GrowN.jo rfl
 simp only [List.take_succ_cons,List.take_zero,List.drop_succ_cons,List.drop_zero]
 iterate 3
  refine GrowN.g_det rfl ?_;apply Exists.intro;refine ⟨λw E B=>?_,?_⟩
  . clear B
    go_simp;exact ⟨rfl,RecW.ExtR.refl _⟩
  go_frame
 refine GrowN.g_det rfl ?_;apply Exists.intro;refine ⟨λw E B=>?_,?_⟩
 ·
  clear B;have hb:=(Below.refl w3.heap.size w3).drew.trans E;have c1:=b5.o w hb;go_simp;exact ⟨rfl,RecW.ExtR.refl _⟩
 go_frame;refine GrowN.g_con rfl (λw E B=>?_) ?_
 ·
  clear B;have hb:=(Below.refl w3.heap.size w3).drew.trans E;obtain ⟨k0,k1⟩:=b6.o w hb;go_simp;exact RecW.ExtR.refl _
 go_frame;refine GrowN.g_det rfl ?_;apply Exists.intro;refine ⟨λw E B=>?_,?_⟩
 . clear B
   go_simp;exact ⟨rfl,RecW.ExtR.refl _⟩
 go_frame;refine GrowN.g_nil λw4 b7 B=>?_
 clear B;have ac:=zq ((Below.refl w3.heap.size w3).drew.trans b7);clear b7;have bc:=am.o w4 (I.o.trans (ac.o.mono I.o.size));have b8:w4.heap[xb]?=some (.cells #[.pointer (some ⟨rb,0,none⟩),.int .i64 (p:Int),.int .i64 (p:Int)] 217 (0,0)):=(ac.o.block xb (Array.getElem?_eq_some_iff.1 b4.o).1).trans b4.o;have b9:=dc.o.below ac.o
 have ca:∀ x∈C.qs.map (λx:QueD=>(x.key,Value.pointer (some ⟨x.blk,0,none⟩))),ars x.1:=λx hx=>by
  obtain ⟨y,_,rfl⟩:=List.mem_map.1 hx;exact ⟨_,_,rfl⟩
 obtain ⟨w5,d0,cc,cd⟩:=sw Tryz.underlying211 aja bc.map ca (k:=.agg #[.string (S t),.int .i64 (q:Int)]) ⟨t,q,rfl⟩ (λx hx=>by
  obtain ⟨y,hy,rfl⟩:=List.mem_map.1 hx;exact HN.o y hy) (.pointer (some ⟨xb,0,none⟩))
 have ce:=zq cc;have ak:=zq cd;have cf:=zq b8;have dd:=zq b9;have F:=zq bc;clear cc cd b8 b9 bc ca br am a6 a7 b5 b6;go_wp2_with fail;go_ret2;have d5:=J.o.size;have d6:=a8.o.size;have d7:=I.o.size;have d8:=ac.o.size;have d9:=c7.o;have ap:=da.o;have ea:C.mB < W.heap.size:=HC.o.map.lt;have cg:Mod (λk=>k=C.mB) W w5:=((Mod.of_below (J.o.trans (I.o.mono J.o.size |>.trans (ac.o.mono (by omega))))).trans ak.o);have bd:∀ k,((ab2 C.db hd).openR rb pv).foot k->k≠C.mB/\k < w2.heap.size:=λk hk=>⟨λe=>by have:=ao.o k hk; omega,b3.o.seg.lt hk⟩
 have ci:Whole base w5 D ((ab2 C.db hd).openR rb pv):=dd.o.mod ak.o (λk hk e=>cs.o C.mB (.inr (.inl rfl)) (e ▸ hk)) (λk hk e=>(bd k hk).1 e);have de:xb < w4.heap.size:=(Array.getElem?_eq_some_iff.1 cf.o).1;have dj:w5.heap[xb]?=_:=(ak.o.block xb de (λe=>by omega)).trans cf.o;have cj:∀ k,C.foot k->k≠C.mB->w5.heap[k]?=w4.heap[k]?:=λk hk dk=>ak.o.block k (F.o.lt hk) dk
 refine ⟨⟨t,(q:Int),xb,(ab2 C.db hd).openR rb pv,p,p⟩,rfl,rfl,rfl,rfl,rfl,⟨rb,pv,rfl⟩,ci,⟨?_,?_,λx hx=>?_,⟨F.o.low.1,F.o.low.2.1,λx hx=>?_⟩,λx hx=>?_,?_⟩,cg,?_,λk hk=>⟨ao.o k hk,λe=>?_⟩⟩
 ·
  exact (cj C.blk (.inl rfl) (λe=>by
   obtain ⟨es,c,h1,_⟩:=F.o.map;have M:=F.o.cells;rw [e,h1] at M; cases M)).trans F.o.cells
 . show PairsAt w5 C.mB ((C.qs++[_]).map _)
   rw [List.map_append]; exact ce.o
 ·
  have al:x∈C.qs++[(⟨t,(q:Int),xb,(ab2 C.db hd).openR rb pv,p,p⟩:QueD)]:=hx
  rcases List.mem_append.1 al with h | h
  . obtain ⟨a1,a2,a3⟩:=F.o.away x h
    obtain ⟨q1,q2,q3⟩:=F.o.que x h;exact ⟨(cj x.blk (.inr (.inr ⟨x,h,.inl rfl⟩)) a1).trans q1,q2.mod ak.o (λk hk e=>(a3 k hk).1 e),q3⟩
  . rw [List.mem_singleton] at h
    subst h;exact ⟨dj,ci.seg,rfl⟩
 ·
  have al:x∈C.qs++[(⟨t,(q:Int),xb,(ab2 C.db hd).openR rb pv,p,p⟩:QueD)]:=hx
  rcases List.mem_append.1 al with h | h
  . exact F.o.low.2.2 x h
  . rw [List.mem_singleton] at h
    subst h;show base<=xb;omega
 ·
  have al:x∈C.qs++[(⟨t,(q:Int),xb,(ab2 C.db hd).openR rb pv,p,p⟩:QueD)]:=hx;have eg:C.blk < W.heap.size:=HC.o.lt (.inl rfl)
  rcases List.mem_append.1 al with h | h
  . exact F.o.away x h
  ·
   rw [List.mem_singleton] at h;subst h;refine ⟨by show xb≠C.mB; omega,by show xb≠C.blk; omega,λk hk=>?_⟩;have h1:=ao.o k hk;have M:=(bd k hk).2;have eh:W.heap.size<=k:=h1;have ei:k < w2.heap.size:=M;exact (show k≠C.mB/\k≠C.blk/\k≠xb from ⟨by omega,by omega,by omega⟩)
 ·
  show (C.qs++[_]).Pairwise _;rw [List.pairwise_append];refine ⟨F.o.sep,List.pairwise_singleton _ _,λx hx y hy k hk dl=>?_⟩;rw [List.mem_singleton] at hy;subst hy;have h1:k < W.heap.size:=HC.o.lt (.inr (.inr ⟨x,hx,hk⟩))
  rcases dl with M | M
  . have h3:k=xb:=M
    omega
  . have:=ao.o k M
    omega
 . show W.heap.size<=xb
   omega
 . have:=(bd k hk).2
   have e2:k=xb:=e;omega
def DrR (u v:World):Prop:=∃ n,v=u.drewN n
theorem DrR.refl (w:World):DrR w w:=⟨0,rfl⟩
theorem DrR.trans {u v w:World} (h:DrR u v) (k:DrR v w):DrR u w:=by obtain ⟨m,rfl⟩:=h; obtain ⟨n,rfl⟩:=k; exact ⟨m+n,World.drewN_drewN ..⟩
theorem next_any {base:Nat} {x:QueD} (w:World) (hx:w.heap[x.blk]?=some (.cells x.cells 217 (0,0))) (hR:SegAt base w x.R) (hb:x.b0<=1099511627776) :
 Calls Tryz.prog 133 #[.pointer (some ⟨x.blk,0,none⟩)] w λe w'=>e=.returned (.int .i64 ((x.b0+x.R.e / 20:Nat):Int))/\Drawn w w':=by
 have c0:w.cell? ⟨x.blk,0,none⟩=some (.pointer (some ⟨x.R.blk,0,none⟩)):=by rw [Lib.cell_of_heap hx]; rfl
 have c1:w.cell? ⟨x.blk,1,none⟩=some (.int .i64 (x.b0:Int)):=by rw [Lib.cell_of_heap hx]; rfl
 have F:Zq (∀ w2,Drawn w w2->Calls Tryz.prog 40 #[.pointer (some ⟨x.R.blk,0,none⟩)] w2 λe w'=>e=.returned (.int .i64 (x.R.e:Int))/\w'=w2):=λw2 hd=>SegW.end_any w2 (hR.below (hd.below _))
 have I:=hR.e_le;clear hx hR;go_enter Tryz.func133,Tryz.ntmps133;go_wp2_with fail;refine GrowN.au 12 [none,none,none,none,none,none,none,none,some (.inl (.int .i64 (x.R.e:Int))),some (.inl (.int .i64 ((x.R.e / 20:Nat):Int))),some (.inl (.int .i64 ((x.b0+x.R.e / 20:Nat):Int))),none] (DrR) (by kernel_rfl) (by kernel_rfl) (by kernel_rfl) (DrR.refl) (λ_ _ _=>DrR.trans) ?_ ?_
 . exact GrowN.jo rfl
 simp only [List.take_succ_cons,List.take_zero,List.drop_succ_cons,List.drop_zero]
 iterate 2
  refine GrowN.g_det rfl ?_;apply Exists.intro;refine ⟨λw B A=>?_,?_⟩
  . clear A
    go_simp;exact ⟨rfl,DrR.refl _⟩
  go_frame;refine GrowN.g_det rfl ?_;apply Exists.intro;refine ⟨λw B A=>?_,?_⟩
  . clear A
    go_simp;exact ⟨rfl,DrR.refl _⟩
  go_frame;refine GrowN.g_det rfl ?_;apply Exists.intro;refine ⟨λw B A=>?_,?_⟩
  . clear A
    go_simp;exact ⟨rfl,DrR.refl _⟩
  go_frame;refine GrowN.g_det rfl ?_;apply Exists.intro;refine ⟨λw B A=>?_,?_⟩
  . clear A
    obtain ⟨n,rfl⟩:=B;go_simp;exact ⟨rfl,DrR.refl _⟩
  go_frame
 refine GrowN.g_con rfl (λw B A=>?_) ?_
 ·
  clear A;obtain ⟨n,rfl⟩:=B;go_simp;exact (F.o _ ⟨1+n,by first | rfl | (rw [<- World.drewN_drewN]; rfl)⟩).mono λe w3 h=>⟨_,h.1,rfl,h.2 ▸ DrR.refl _⟩
 iterate 2
  go_frame;refine GrowN.g_con rfl (λw B A=>?_) ?_
  . clear A
    go_simp;exact ⟨by rw [IntWalk.i64_in _ (by omega)],DrR.refl _⟩
 go_frame;refine GrowN.g_det rfl ?_;apply Exists.intro;refine ⟨λw B A=>?_,?_⟩
 . clear A
   go_simp;exact ⟨rfl,DrR.refl _⟩
 go_frame;refine GrowN.g_nil λw2 E A=>?_
 clear A
 have hd:Drawn w w2:=by
  obtain ⟨n,rfl⟩:=E;exact ⟨1+n,by rw [<- World.drewN_drewN]; rfl⟩
 have J:=zq hd;clear hd E;go_wp2_with fail;go_ret;exact ⟨rfl,J.o⟩
theorem an5 (w:World):(zeroValue 205).run Tryz.prog w=.ok (.pointer none) w:=by kernel_rfl
theorem CqAt.setR {base:Nat} {w w':World} {C:CqD} {D:DiskD} {x:QueD} {R':SegD} {l:List QueD} (h:CqAt base w C) (hl:C.qs=l++[x]) (hm:Mod (λk=>D.foot k\/x.R.foot k) w w') (haw:∀ k,C.foot k->¬ D.foot k) (hS:SegAt base w' R') (e1:R'.blk=x.R.blk) (e2:R'.db=x.R.db) (hf:∀ k,R'.foot k->x.R.foot k\/w.heap.size<=k) :
 CqAt base w' { C with qs:=l++[{ x with R:=R' }] }:=by
 have J:x∈C.qs:=by rw [hl]; simp
 have F:=h.sep;rw [hl,List.pairwise_append] at F;obtain ⟨s1,_,s3⟩:=F;have E:∀ y∈l,y∈C.qs:=λy A=>by rw [hl]; exact List.mem_append_left _ A
 obtain ⟨Z,a2,a3⟩:=h.away x J;have key:∀ k,C.foot k->¬ x.R.foot k->w'.heap[k]?=w.heap[k]?:=λk hk M=>hm.block k (h.lt hk) (λB=>B.elim (haw k hk) M)
 refine ⟨(key C.blk (.inl rfl) (λB=>(a3 _ B).2.1 rfl)).trans h.cells,?_,λy A=>?_,⟨h.low.1,h.low.2.1,λy A=>?_⟩,λy A=>?_,?_⟩
 ·
  have:=h.map.mod hm (λB=>B.elim (haw C.mB (.inr (.inl rfl))) (λN=>(a3 _ N).1 rfl));rw [hl,List.map_append] at this;show PairsAt w' C.mB ((l++[_]).map _);rw [List.map_append]; exact this
 ·
  rcases List.mem_append.1 A with A | A
  . obtain ⟨O,X,U⟩:=h.que y (E y A)
    have M:∀ k,(k=y.blk\/y.R.foot k)->¬ x.R.foot k:=λk hk I=>s3 y A x (.head _) k hk (.inr I)
    refine ⟨(key y.blk (.inr (.inr ⟨y,E y A,.inl rfl⟩)) (M _ (.inl rfl))).trans O,X.mod hm (λk hk B=>B.elim (haw k (.inr (.inr ⟨y,E y A,.inr hk⟩))) (M k (.inr hk))),U⟩
  ·
   rw [List.mem_singleton] at A;subst A;obtain ⟨O,X,U⟩:=h.que x J;refine ⟨?_,hS,e2.trans U⟩;have:=(key x.blk (.inr (.inr ⟨x,J,.inl rfl⟩)) (λB=>(a3 _ B).2.2 rfl)).trans O;show w'.heap[x.blk]?=some (.cells (QueD.cells { x with R:=R' }) _ _);unfold QueD.cells at this ⊢;rw [e1]; exact this
 ·
  rcases List.mem_append.1 A with A | A
  . exact h.low.2.2 y (E y A)
  . rw [List.mem_singleton] at A
    subst A; exact h.low.2.2 x J
 ·
  rcases List.mem_append.1 A with A | A
  . exact h.away y (E y A)
  ·
   rw [List.mem_singleton] at A;subst A;have l1:=h.lt (k:=C.mB) (.inr (.inl rfl));have l2:=h.lt (k:=C.blk) (.inl rfl);have l3:=h.lt (k:=x.blk) (.inr (.inr ⟨x,J,.inl rfl⟩));refine ⟨Z,a2,λk hk=>?_⟩
   rcases hf k hk with B | B
   . exact a3 k B
   . exact (show k≠C.mB/\k≠C.blk/\k≠x.blk from ⟨by omega,by omega,by omega⟩)
 ·
  show (l++[_]).Pairwise _;rw [List.pairwise_append];refine ⟨s1,List.pairwise_singleton _ _,λy A z Y k hk I=>?_⟩;rw [List.mem_singleton] at Y;subst Y;have h1:=h.lt (k:=k) (.inr (.inr ⟨y,E y A,hk⟩))
  rcases I with B | B
  . exact s3 y A x (.head _) k hk (.inl B)
  . rcases hf k B with N | N
    . exact s3 y A x (.head _) k hk (.inr N)
    . omega
structure art (base:Nat) (W w':World) (C:CqD) (D:DiskD) (t:List UInt8) (q:Nat) (s:List UInt8) (x:QueD) (D':DiskD):Prop where
 cq:CqAt base w' { C with qs:=C.qs++[x] }
 dsk:DiskAt base w' D'
 topic:x.topic=t
 qq:x.q=(q:Int)
 b0:x.b0=0
 least:x.least=0
 b:x.R.b=0
 txt:x.R.txt=s
 quiet:Quiet D'
 dblk:D'.blk=D.blk
 room:D'.room=D.room - (s.length:Int)
 waits:D'.waits.length=D.waits.length+1
 other:∀ n,(∀ p,p<=99999999->n≠af (jy t q) p)->D'.find n=D.find n
 files:D'.files.length<=D.files.length+1
 names:∀ p∈D'.files,p.1.length<=(jy t q).length+8\/∃ r∈D.files,r.1=p.1
 dfoot:∀ k,D'.foot k->D.foot k\/W.heap.size<=k
 xfoot:∀ k,(k=x.blk\/x.R.foot k)->W.heap.size<=k
 away:∀ k,CqD.foot { C with qs:=C.qs++[x] } k->¬ D'.foot k
 mod:Mod (λk=>k=C.mB\/D.foot k) W w'
 whole:Whole base w' D' x.R
 hd:x.R.head=jy t q
 sz:x.R.size=200
theorem apz {base:Nat} {D:DiskD} {C:CqD} (t:List UInt8) (q:Nat) (a b c d:Int) (W:World) (hC:CqAt base W C) (hD:DiskAt base W D) (hdb:C.db=D.blk) (hq:Quiet D) (hfl:D.files.length<=1048576) (hnl:∀ p∈D.files,p.1.length<=1073741824) (hbase:base<=W.heap.size) (hT:TabB base W)
 (hn:∀ x∈C.qs,x.key≠.agg #[.string (S t),.int .i64 (q:Int)]) (ht:NameMath.lc t=true) (htl:t.length<=1000) (hql:q < 3) (ho:∀ m,m<=99999999->D.find (af (jy t q) m)=none) (haw:∀ k,C.foot k->¬ D.foot k)
 (s:List UInt8) (hs:s.length=20) (hput:∀ w,Calls Tryz.prog 131 #[.agg #[.int .i64 a,.int .i64 b,.int .i64 c,.int .i64 d]] w λe w'=>e=.returned (.tuple #[.string (S s),.bool true])/\Below w.heap.size w w') (hroom:20<=D.room) (hwl:D.waits.length<=1000000) :
 Calls Tryz.prog 69 #[.pointer (some ⟨C.blk,0,none⟩),.string (S t),.int .i64 (q:Int),.agg #[.int .i64 a,.int .i64 b,.int .i64 c,.int .i64 d]] W λe w'=>e=.returned (.tuple #[.int .i64 0,.int .i64 0])/\∃ x D',art base W w' C D t q s x D':=by
 have b1:Zq (Below W.heap.size W (W.alloc (.cells #[.int .i64 a,.int .i64 b,.int .i64 c,.int .i64 d] 136))):=(Below.refl _ W).alloc (Nat.le_refl _) _;have Z:Zq ((W.alloc (.cells #[.int .i64 a,.int .i64 b,.int .i64 c,.int .i64 d] 136)).heap[W.heap.size]?=some (.cells #[.int .i64 a,.int .i64 b,.int .i64 c,.int .i64 d] 136 (0,0))):=heap_alloc_new W _;have b2:=zq (λ(w:World)=>ag4 t q ht (by omega) hql w);have b3:=zq (λ(w:World) (hb:Below W.heap.size W w)=>al5 t q 0 w (hC.below hb) (hD.below hb) hdb hq hfl hnl (Nat.le_trans hbase hb.size) (hT.below hb) hn htl (by omega) (by omega) ho haw);have b4:=zq hput;have HC:=zq hC;have HD:=zq hD;have HQ:=zq hq;have dc:=zq hT;have HN:=zq hn;have ab:=zq haw;have ea:=zq hdb;have dd:=zq hroom;have bb:=zq hs;have de:=zq hwl;have dj:=zq hbase;clear hC hD hdb hq hfl hnl hbase hT hn ht htl ho haw hput hroom hs hwl;go_enter Tryz.func69,Tryz.ntmps69;go_upto_region 1 with fail
 generalize W.alloc (.cells #[.int .i64 a,.int .i64 b,.int .i64 c,.int .i64 d] 136)=w1 at *
 obtain ⟨A,hA⟩:∃ A,W.heap.size=A:=⟨_,rfl⟩;rw [hA] at Z ⊢;have eb:=zq hA;clear hA;go_wp2_with fail;refine (b2.o w1).mono ?_;rintro e w2 ⟨rfl,hb⟩;have b5:=zq (b1.o.trans (hb.mono b1.o.size));have O:w2.heap[A]?=_:=(hb.block A (Array.getElem?_eq_some_iff.1 Z.o).1).trans Z.o;have p0:w2.cell? ⟨A,0,none⟩=some (.int .i64 a):=by rw [Lib.cell_of_heap O]; rfl
 have p1:w2.cell? ⟨A,1,none⟩=some (.int .i64 b):=by rw [Lib.cell_of_heap O]; rfl
 have p2:w2.cell? ⟨A,2,none⟩=some (.int .i64 c):=by rw [Lib.cell_of_heap O]; rfl
 have p3:w2.cell? ⟨A,3,none⟩=some (.int .i64 d):=by rw [Lib.cell_of_heap O]; rfl
 clear hb O b2 Z;go_wp2_with fail;refine (b4.o w2).mono ?_;rintro e E ⟨rfl,hb⟩;have ar:=zq (b5.o.trans (hb.mono b5.o.size));clear hb p0 p1 p2 p3 b4;go_upto_region 10 with fail
 have b6:Below E.heap.size E (E.alloc (.cells #[.string (S t),.int .i64 (q:Int)] 210)):=(Below.refl _ _).alloc (Nat.le_refl _) _;have bc:(E.alloc (.cells #[.string (S t),.int .i64 (q:Int)] 210)).heap[E.heap.size]?=some (.cells #[.string (S t),.int .i64 (q:Int)] 210 (0,0)):=heap_alloc_new E _;generalize E.alloc (.cells #[.string (S t),.int .i64 (q:Int)] 210)=w3 at *
 obtain ⟨G,hG⟩:∃ G,E.heap.size=G:=⟨_,rfl⟩;rw [hG] at bc ⊢;have N:=zq (ar.o.trans (b6.mono ar.o.size));have b7:=zq bc;clear b6 bc hG
 have HK:Zq (∀ w,Below w3.heap.size w3 w->w.cell? ⟨G,0,none⟩=some (.string (S t))/\w.cell? ⟨G,1,none⟩=some (.int .i64 (q:Int))):=λw hb=>by
  have h:=(hb.block G (Array.getElem?_eq_some_iff.1 b7.o).1).trans b7.o;exact ⟨by rw [Lib.cell_of_heap h]; rfl,by rw [Lib.cell_of_heap h]; rfl⟩
 have b8:Zq (∀ w,Below w3.heap.size w3 w->w.cell? ⟨C.blk,1,none⟩=some (.map (some C.mB))):=λw hb=>by rw [Lib.cell_of_heap (HC.o.below (N.o.trans (hb.mono N.o.size))).cells]; rfl
 have b9:Zq (∀ w,Below w3.heap.size w3 w->(Instr.lookup 211 (.map (some C.mB)) (.agg #[.string (S t),.int .i64 (q:Int)]) false).run Tryz.prog w=.ok (.pointer none) w):=λw hb=>by
  have dl:=HC.o.below (N.o.trans (hb.mono N.o.size))
  exact aas Tryz.underlying211 aja dl.map (λx hx=>by
   obtain ⟨y,_,rfl⟩:=List.mem_map.1 hx;exact ⟨_,_,rfl⟩) (k:=.agg #[.string (S t),.int .i64 (q:Int)]) ⟨t,q,rfl⟩ (λx hx=>by
   obtain ⟨y,I,rfl⟩:=List.mem_map.1 hx;exact HN.o y I) an5 false
 refine GrowN.au 7 [none,none,none,none,some (.inl (.agg #[.string (S t),.int .i64 (q:Int)])),some (.inl (.pointer none)),none] (RecW.ExtR) (by kernel_rfl) (by kernel_rfl) (by kernel_rfl) (RecW.ExtR.refl) (λ_ _ _=>RecW.ExtR.trans) ?_ ?_
 . exact GrowN.jo rfl
 simp only [List.take_succ_cons,List.take_zero,List.drop_succ_cons,List.drop_zero]
 iterate 3
  refine GrowN.g_det rfl ?_;apply Exists.intro;refine ⟨λw hw U=>?_,?_⟩
  . clear U
    go_simp;exact ⟨rfl,RecW.ExtR.refl _⟩
  go_frame
 refine GrowN.g_det rfl ?_;apply Exists.intro;refine ⟨λw hw U=>?_,?_⟩
 ·
  clear U;have hb:=(Below.refl w3.heap.size w3).drew.trans hw;have c1:=b8.o w hb;go_simp;exact ⟨rfl,RecW.ExtR.refl _⟩
 go_frame;refine GrowN.g_con rfl (λw hw U=>?_) ?_
 ·
  clear U;have hb:=(Below.refl w3.heap.size w3).drew.trans hw;obtain ⟨k0,k1⟩:=HK.o w hb;go_simp;exact RecW.ExtR.refl _
 go_frame;refine GrowN.g_con rfl (λw hw U=>?_) ?_
 ·
  clear U;have hb:=(Below.refl w3.heap.size w3).drew.trans hw;have hl:=b9.o w hb;go_simp;exact RecW.ExtR.refl _
 go_frame;refine GrowN.g_det rfl ?_;apply Exists.intro;refine ⟨λw hw U=>?_,?_⟩
 . clear U
   go_simp;exact ⟨rfl,RecW.ExtR.refl _⟩
 go_frame;refine GrowN.g_nil λw4 ca U=>?_
 clear U;have cb:=zq ((Below.refl w3.heap.size w3).drew.trans ca);clear ca b8 b9;obtain ⟨k0,k1⟩:=HK.o w4 cb.o;go_wp2_with fail;have B:Below W.heap.size W w4:=N.o.trans (cb.o.mono N.o.size);refine (b3.o w4 B).mono ?_;rintro e w5 ⟨x,rfl,cc,cd,ad,ce,⟨rb,pv,F⟩,ak,bd,al,a1,cf⟩;have bh:=(bd.que x (by show x∈C.qs++[x]; simp)).1;have X:x.R.e=0:=by rw [F]; rfl
 have cg:x.R.room=200:=by rw [F]; rfl
 have a6:x.R.b=0:=by rw [F]; rfl
 have ci:x.R.txt=[]:=by rw [F]; rfl
 have a7:x.R.db=C.db:=by rw [F]; rfl
 have a8:x.R.size=200:=by rw [F]; rfl
 have cj:x.R.head=jy t q:=by rw [F]; rfl
 have bj:=next_any w5 bh ak.seg (by rw [ad]; omega);rw [ad,X] at bj;have ck:Zq (Calls Tryz.prog 133 #[.pointer (some ⟨x.blk,0,none⟩)] w5 λe w'=>e=.returned (.int .i64 0)/\Drawn w5 w'):=bj;have cm:=zq bh;have ef:=zq ak;have dp:=zq bd;have cn:=zq al;have ba:=zq B;have dq:Zq (x.topic=t/\x.q=(q:Int)/\x.b0=0/\x.least=0/\x.R.b=0/\x.R.txt=[]/\x.R.db=C.db/\x.R.head=jy t q/\x.R.e=0/\x.R.size=200):=⟨cc,cd,ad,ce,a6,ci,a7,cj,X,a8⟩;have dr:Zq (w4.heap.size<=x.blk/\∀ k,x.R.foot k->w4.heap.size<=k/\k≠x.blk):=⟨a1,cf⟩;have co:TabB base w5:=(dc.o.below B).mod al (λk hk=>by rw [hk]; exact HC.o.low.2.1);have bk:=zq (λ(w:World) (hd:Drawn w5 w)=>append_ok s w (co.mod (M:=λ_=>False) (Mod.of_below (hd.below _)) (λ_ h=>h.elim)) (ak.below (hd.below _)) (by have h1:=dj.o; have J:=B.size; have h3:=al.size; have h4:=hd.heap; rw [h4]; omega) HQ.o (by intro e; have:=bb.o; rw [e] at this; cases this) (by rw [cg]; have:=bb.o; omega) (by have h1:=dd.o; have J:=bb.o; omega) (by have:=de.o; omega) (λ_=>by rw [X]; omega));rw [X] at bk;clear cc cd ad ce F ak bd al a1 cf bh X cg a6 ci a7 cj a8 bj B co b3 k0 k1;go_wp2_with fail;refine ck.o.mono ?_;rintro e w6 ⟨rfl,bl⟩
 have c0:w6.cell? ⟨x.blk,0,none⟩=some (.pointer (some ⟨x.R.blk,0,none⟩)):=by
  have h:w6.heap[x.blk]?=_:=(congrArg (λh=>h[x.blk]?) bl.heap).trans cm.o;rw [Lib.cell_of_heap h]; rfl
 have am:=zq bl;clear bl ck;go_wp2_with fail;refine (bk.o w6 am.o).mono ?_;rintro e w7 ⟨rfl,cp,D',R',cq,Y,cr,cs,cv⟩;have bm:=zq cp;have an:=zq cq;have ds:=zq Y;have dt:=zq cr;have cw:=zq cs;have cx:=zq cv;clear cp cq Y cr cs cv bk c0;go_wp2_with fail;go_ret2;obtain ⟨x1,x2,x3,x4,x5,x6,x7,x8,x9,dv⟩:=dq.o;obtain ⟨ep,bo⟩:=dr.o;have hR:=dt.o;have Y:=ds.o;have e1:R'.blk=x.R.blk:=by rw [hR]
 have e2:R'.db=x.R.db:=by rw [hR]
 have e3:R'.b=x.R.b:=by rw [hR]
 have e4:R'.txt=x.R.txt++s:=by rw [hR]
 have B:=ba.o.size;have ey:=cn.o.size;have ez:w6.heap.size=w5.heap.size:=by rw [am.o.heap]
 have e0:=bm.o.size;have cy:∀ k,D.foot k->k < W.heap.size:=λk hk=>HD.o.lt hk
 have bp:∀ k,C.foot k->k < W.heap.size:=λk hk=>HC.o.lt hk
 have dx:CqAt base w6 { C with qs:=C.qs++[x] }:=dp.o.mod (M:=λ_=>False) (Mod.of_below (am.o.below _)) (λ_ _ h=>h)
 have dy:∀ k,CqD.foot { C with qs:=C.qs++[x] } k->C.foot k\/W.heap.size<=k:=λk hk=>by
  rcases hk with hk | hk | ⟨y,I,hk⟩
  . exact .inl (.inl hk)
  . exact .inl (.inr (.inl hk))
  ·
   have br:y∈C.qs++[x]:=I
   rcases List.mem_append.1 br with I | I
   . exact .inl (.inr (.inr ⟨y,I,hk⟩))
   ·
    rw [List.mem_singleton] at I;subst I
    right
    rcases hk with hk | hk
    . rw [hk]; omega
    . have:=(bo k hk).1; omega
 have c6:∀ k,CqD.foot { C with qs:=C.qs++[x] } k->¬ D.foot k:=λk hk h=>by
  rcases dy k hk with J | J
  . exact ab.o k J h
  . have:=cy k h; omega
 have c7:=CqAt.setR (l:=C.qs) dx rfl bm.o c6 an.o.seg e1 e2 cx.o;have ao:∀ k,D'.foot k->D.foot k\/W.heap.size<=k:=λk hk=>(cw.o k hk).imp_right λh=>by omega
 have c8:Mod (λk=>k=C.mB\/D.foot k) W w5:=(Mod.of_below ba.o).trans (cn.o.mono λk _ hk=>.inl hk);have dz:Mod (λk=>k=C.mB\/D.foot k) W w6:=c8.drawn am.o;refine ⟨rfl,{ x with R:=R' },D',c7,an.o.dsk,x1,x2,x3,x4,e3.trans x5,by show R'.txt=s; rw [e4,x6]; rfl,Y.quiet,Y.blk,Y.room,?_,λn hn=>Y.other n (by rw [x8]; exact hn),Y.files,λp hp=>?_,ao,λk hk=>?_,λk hk h=>?_,?_,an.o,by show R'.head=_; rw [hR]; exact x8,by show R'.size=_; rw [hR]; exact dv⟩
 . obtain ⟨f',o,_,hw⟩:=Y.waits
   rw [hw,List.length_append]; rfl
 . have:=Y.names p hp
   rw [x8] at this; exact this
 ·
  rcases hk with hk | hk
  . have:k=x.blk:=hk
    omega
  . rcases cx.o k hk with h | h
    . have:=(bo k h).1; omega
    . omega
 ·
  rcases hk with hk | hk | ⟨y,I,hk⟩
  . rcases ao k h with J | J
    . exact ab.o k (.inl hk) J
    . have:=bp k (.inl hk); omega
  . rcases ao k h with J | J
    . exact ab.o k (.inr (.inl hk)) J
    . have:=bp k (.inr (.inl hk)); omega
  ·
   have br:y∈C.qs++[{ x with R:=R' }]:=I
   rcases List.mem_append.1 br with I | I
   . rcases ao k h with J | J
     . exact ab.o k (.inr (.inr ⟨y,I,hk⟩)) J
     . have:=bp k (.inr (.inr ⟨y,I,hk⟩)); omega
   ·
    rw [List.mem_singleton] at I;subst I
    rcases hk with hk | hk
    . have e5:k=x.blk:=hk
      rcases cw.o k h with J | J
      . have:=cy k J; omega
      . have h3:x.blk < w5.heap.size:=(Array.getElem?_eq_some_iff.1 cm.o).1
        omega
    . exact an.o.ap k h hk
 ·
  refine jb dz bm.o (λk hk=>?_)
  rcases hk with h | h
  . exact .inl (.inr h)
  . right; have:=(bo k h).1; omega
theorem CqAt.setAt {base:Nat} {w w':World} {C:CqD} {D:DiskD} {x:QueD} {R':SegD} {l1 l2:List QueD} (h:CqAt base w C) (hl:C.qs=l1++x :: l2) (hm:Mod (λk=>D.foot k\/x.R.foot k) w w') (haw:∀ k,C.foot k->¬ D.foot k) (hS:SegAt base w' R') (e1:R'.blk=x.R.blk) (e2:R'.db=x.R.db) (hf:∀ k,R'.foot k->x.R.foot k\/w.heap.size<=k) :
 CqAt base w' { C with qs:=l1++{ x with R:=R' } :: l2 }:=by
 have X:x∈C.qs:=by rw [hl]; simp
 have I:∀ y∈l1++l2,y∈C.qs:=λy A=>by rw [hl]; rcases List.mem_append.1 A with h | h <;> simp [h]
 have J:=h.sep;rw [hl] at J
 have O:∀ y∈l1++l2,∀ k,(k=y.blk\/y.R.foot k)->¬ (k=x.blk\/x.R.foot k):=λy A k hk E=>by
  have hp:=List.pairwise_append.1 J
  rcases List.mem_append.1 A with h1 | h1
  . exact hp.2.2 y h1 x (.head _) k hk E
  . exact (List.pairwise_cons.1 hp.2.1).1 y h1 k E hk
 have hold:∀ k,C.foot k->¬ x.R.foot k->w'.heap[k]?=w.heap[k]?:=λk hk hn=>hm.block k (h.lt hk) (λB=>B.elim (haw k hk) hn)
 have M:∀ y,y∈l1++{ x with R:=R' } :: l2->y∈l1++l2\/y={ x with R:=R' }:=λy A=>by
  rcases List.mem_append.1 A with h1 | h1
  . exact .inl (List.mem_append_left _ h1)
  . rcases List.mem_cons.1 h1 with B | B
    . exact .inr B
    . exact .inl (List.mem_append_right _ B)
 have F:=h.away x X;refine ⟨?_,?_,λy A=>?_,⟨h.low.1,h.low.2.1,λy A=>?_⟩,λy A=>?_,?_⟩
 . rw [show w'.heap[C.blk]?=w.heap[C.blk]? from hold _ (.inl rfl) (λB=>(F.2.2 _ B).2.1 rfl)]; exact h.cells
 ·
  have e:(l1++{ x with R:=R' } :: l2).map (λy=>(y.key,Value.pointer (some ⟨y.blk,0,none⟩)))=C.qs.map λy=>(y.key,.pointer (some ⟨y.blk,0,none⟩)):=by
   rw [hl]; simp [QueD.key]
  show PairsAt w' C.mB ((l1++{ x with R:=R' } :: l2).map _);rw [e];exact h.map.mod hm (λB=>B.elim (haw _ (.inr (.inl rfl))) λU=>(F.2.2 _ U).1 rfl)
 ·
  rcases M y A with h1 | rfl
  . obtain ⟨Z,a2,a3⟩:=h.que y (I y h1)
    have Y:∀ k,(k=y.blk\/y.R.foot k)->¬ (D.foot k\/x.R.foot k):=λk hk B=>B.elim (haw k (.inr (.inr ⟨y,I y h1,hk⟩))) λU=>O y h1 k hk (.inr U)
    exact ⟨(hm.block _ (Array.getElem?_eq_some_iff.1 Z).1 (Y _ (.inl rfl))).trans Z,a2.mod hm (λk hk=>Y k (.inr hk)),a3⟩
  ·
   obtain ⟨Z,a2,a3⟩:=h.que x X;refine ⟨?_,hS,e2.trans a3⟩;show w'.heap[x.blk]?=some (.cells (QueD.cells { x with R:=R' }) _ _);rw [show w'.heap[x.blk]?=w.heap[x.blk]? from hold _ (.inr (.inr ⟨x,X,.inl rfl⟩)) (λB=>(F.2.2 _ B).2.2 rfl),Z];unfold QueD.cells;rw [show ({ x with R:=R' }:QueD).R.blk=x.R.blk from e1]
 . rcases M y A with h1 | rfl
   . exact h.low.2.2 y (I y h1)
   . exact h.low.2.2 x X
 ·
  rcases M y A with h1 | rfl
  . exact h.away y (I y h1)
  ·
   refine ⟨F.1,F.2.1,λk hk=>?_⟩
   rcases hf k hk with B | B
   . exact F.2.2 k B
   . have b1:=h.lt (.inl rfl:C.foot C.blk)
     have b2:=h.lt (.inr (.inl rfl):C.foot C.mB);have b3:=h.lt (.inr (.inr ⟨x,X,.inl rfl⟩):C.foot x.blk);exact ⟨by show k≠C.mB; omega,by show k≠C.blk; omega,by show k≠x.blk; omega⟩
 ·
  have N:∀ y∈l1++l2,∀ k,(k=y.blk\/y.R.foot k)->¬ (k=x.blk\/R'.foot k):=λy A k hk E=>by
   rcases E with B | B
   . exact O y A k hk (.inl B)
   . rcases hf k B with U | U
     . exact O y A k hk (.inr U)
     . have:=h.lt (.inr (.inr ⟨y,I y A,hk⟩):C.foot k); omega
  have hp:=List.pairwise_append.1 J;have ab:=List.pairwise_cons.1 hp.2.1;refine List.pairwise_append.2 ⟨hp.1,List.pairwise_cons.2 ⟨λy A k hk E=>N y (List.mem_append_right _ A) k E hk,ab.2⟩,λy A z hz k hk E=>?_⟩
  rcases List.mem_cons.1 hz with rfl | hz
  . exact N y (List.mem_append_left _ A) k hk E
  . exact hp.2.2 y A z (.tail _ hz) k hk E
structure aq1 (base:Nat) (W w':World) (C:CqD) (D:DiskD) (l1 l2:List QueD) (x:QueD) (s:List UInt8) (R':SegD) (D':DiskD):Prop where
 cq:CqAt base w' { C with qs:=l1++{ x with R:=R' } :: l2 }
 whole:Whole base w' D' R'
 app:AppOk D D' x.R R' s
 row:R'={ x.R with n:=R'.n,pv:=R'.pv,txt:=x.R.txt++s }
 dfoot:∀ k,D'.foot k->D.foot k\/W.heap.size<=k
 rfoot:∀ k,R'.foot k->x.R.foot k\/W.heap.size<=k
 mod:Mod (λk=>D.foot k\/x.R.foot k) W w'
theorem ap0 {base:Nat} {D:DiskD} {C:CqD} {l1 l2:List QueD} {x:QueD} (t:List UInt8) (q:Nat) (a b c d:Int) (W:World) (hC:CqAt base W C) (hD:DiskAt base W D) (hdb:C.db=D.blk) (hq:Quiet D) (hbase:base<=W.heap.size) (hT:TabB base W)
 (hl:C.qs=l1++x :: l2) (hx:x.topic=t/\x.q=(q:Int)) (ht:NameMath.lc t=true) (htl:t.length<=1000) (hql:q < 3) (haw:∀ k,C.foot k->¬ D.foot k) (hok:aad D x.R) (hon:ul D x.R) (hsz:x.R.size=200) (hdv:x.R.txt.length % 20=0) (he:x.R.e<=90000000) (hb0:x.b0<=1099511627776)
 (s:List UInt8) (hs:s.length=20) (hput:∀ w,Calls Tryz.prog 131 #[.agg #[.int .i64 a,.int .i64 b,.int .i64 c,.int .i64 d]] w λe w'=>e=.returned (.tuple #[.string (S s),.bool true])/\Below w.heap.size w w') (hroom:20<=D.room) (hwl:D.waits.length<=1000000) :
 Calls Tryz.prog 69 #[.pointer (some ⟨C.blk,0,none⟩),.string (S t),.int .i64 (q:Int),.agg #[.int .i64 a,.int .i64 b,.int .i64 c,.int .i64 d]] W λe w'=>e=.returned (.tuple #[.int .i64 ((x.b0+x.R.e / 20:Nat):Int),.int .i64 0])/\∃ R' D',aq1 base W w' C D l1 l2 x s R' D':=by
 have ad:Zq (Below W.heap.size W (W.alloc (.cells #[.int .i64 a,.int .i64 b,.int .i64 c,.int .i64 d] 136))):=(Below.refl _ W).alloc (Nat.le_refl _) _;have O:Zq ((W.alloc (.cells #[.int .i64 a,.int .i64 b,.int .i64 c,.int .i64 d] 136)).heap[W.heap.size]?=some (.cells #[.int .i64 a,.int .i64 b,.int .i64 c,.int .i64 d] 136 (0,0))):=heap_alloc_new W _;have ak:=zq (λ(w:World)=>ag4 t q ht (by omega) hql w);have al:=zq hput;have HC:=zq hC;have HD:=zq hD;have HX:=zq hx;have B:Zq (x∈C.qs):=by show x∈C.qs; rw [hl]; simp
 have am:=zq (λ(w:World) (hb:Below W.heap.size W w)=>next_any w ((hC.below hb).que x B.o).1 ((hC.below hb).que x B.o).2.1 hb0);have bs:=hC.away x B.o;have an:∀ k,D.foot k->¬ x.R.foot k:=λk hk h=>haw k (.inr (.inr ⟨x,B.o,.inr h⟩)) hk
 have X:=(hC.que x B.o).2.1
 have ao:20<=x.R.room:=by
  unfold SegD.room
  split
  . rename_i h
    have h1:=X.long h.1;rw [hsz] at h1 h ⊢;omega
  . omega
 have ap:=zq (λ(w:World) (hb:Below W.heap.size W w)=>append_ok s w (hT.below hb) ⟨X.below hb,hD.below hb,((hC.que x B.o).2.2).trans hdb,an,hok,hon⟩ (Nat.le_trans hbase hb.size) hq (by intro e; rw [e] at hs; cases hs) (by rw [hs]; exact ao) (by rw [hs]; exact hroom) (by omega) (λ_=>by omega));have bw:=zq haw;have HL:=zq hl;clear hC hD hdb hq hbase hT hl hx ht htl haw hok hon hput hroom hs hwl hsz hdv bs an X ao;go_enter Tryz.func69,Tryz.ntmps69;go_upto_region 1 with fail
 generalize W.alloc (.cells #[.int .i64 a,.int .i64 b,.int .i64 c,.int .i64 d] 136)=w1 at *
 obtain ⟨A,hA⟩:∃ A,W.heap.size=A:=⟨_,rfl⟩;rw [hA] at O ⊢;have cd:=zq hA;clear hA;go_wp2_with fail;refine (ak.o w1).mono ?_;rintro e w2 ⟨rfl,hb⟩;have ar:=zq (ad.o.trans (hb.mono ad.o.size));have I:w2.heap[A]?=_:=(hb.block A (Array.getElem?_eq_some_iff.1 O.o).1).trans O.o;have p0:w2.cell? ⟨A,0,none⟩=some (.int .i64 a):=by rw [Lib.cell_of_heap I]; rfl
 have p1:w2.cell? ⟨A,1,none⟩=some (.int .i64 b):=by rw [Lib.cell_of_heap I]; rfl
 have p2:w2.cell? ⟨A,2,none⟩=some (.int .i64 c):=by rw [Lib.cell_of_heap I]; rfl
 have p3:w2.cell? ⟨A,3,none⟩=some (.int .i64 d):=by rw [Lib.cell_of_heap I]; rfl
 clear hb I ak O;go_wp2_with fail;refine (al.o w2).mono ?_;rintro e E ⟨rfl,hb⟩;have U:=zq (ar.o.trans (hb.mono ar.o.size));clear hb p0 p1 p2 p3 al;go_upto_region 10 with fail
 have av:Below E.heap.size E (E.alloc (.cells #[.string (S t),.int .i64 (q:Int)] 210)):=(Below.refl _ _).alloc (Nat.le_refl _) _;have Y:(E.alloc (.cells #[.string (S t),.int .i64 (q:Int)] 210)).heap[E.heap.size]?=some (.cells #[.string (S t),.int .i64 (q:Int)] 210 (0,0)):=heap_alloc_new E _;generalize E.alloc (.cells #[.string (S t),.int .i64 (q:Int)] 210)=w3 at *
 obtain ⟨G,hG⟩:∃ G,E.heap.size=G:=⟨_,rfl⟩;rw [hG] at Y ⊢;have F:=zq (U.o.trans (av.mono U.o.size));have a1:=zq Y;clear av Y hG
 have HK:Zq (∀ w,Below w3.heap.size w3 w->w.cell? ⟨G,0,none⟩=some (.string (S t))/\w.cell? ⟨G,1,none⟩=some (.int .i64 (q:Int))):=λw hb=>by
  have h:=(hb.block G (Array.getElem?_eq_some_iff.1 a1.o).1).trans a1.o;exact ⟨by rw [Lib.cell_of_heap h]; rfl,by rw [Lib.cell_of_heap h]; rfl⟩
 have a6:Zq (∀ w,Below w3.heap.size w3 w->w.cell? ⟨C.blk,1,none⟩=some (.map (some C.mB))):=λw hb=>by rw [Lib.cell_of_heap (HC.o.below (F.o.trans (hb.mono F.o.size))).cells]; rfl
 have a7:Zq (∀ w,Below w3.heap.size w3 w->(Instr.lookup 211 (.map (some C.mB)) (.agg #[.string (S t),.int .i64 (q:Int)]) false).run Tryz.prog w=.ok (.pointer (some ⟨x.blk,0,none⟩)) w):=λw hb=>by
  have b1:=HC.o.below (F.o.trans (hb.mono F.o.size))
  exact aar Tryz.underlying211 aja b1.map (λp hp=>by
   obtain ⟨y,_,rfl⟩:=List.mem_map.1 hp;exact ⟨_,_,rfl⟩) (k:=.agg #[.string (S t),.int .i64 (q:Int)]) ⟨t,q,rfl⟩ (List.mem_map.2 ⟨x,B.o,by unfold QueD.key; rw [HX.o.1,HX.o.2]⟩) false
 refine GrowN.au 7 [none,none,none,none,some (.inl (.agg #[.string (S t),.int .i64 (q:Int)])),some (.inl (.pointer (some ⟨x.blk,0,none⟩))),none] (RecW.ExtR) (by kernel_rfl) (by kernel_rfl) (by kernel_rfl) (RecW.ExtR.refl) (λ_ _ _=>RecW.ExtR.trans) ?_ ?_
 . exact GrowN.jo rfl
 simp only [List.take_succ_cons,List.take_zero,List.drop_succ_cons,List.drop_zero]
 iterate 3
  refine GrowN.g_det rfl ?_;apply Exists.intro;refine ⟨λw Z J=>?_,?_⟩
  . clear J
    go_simp;exact ⟨rfl,RecW.ExtR.refl _⟩
  go_frame
 refine GrowN.g_det rfl ?_;apply Exists.intro;refine ⟨λw Z J=>?_,?_⟩
 ·
  clear J;have hb:=(Below.refl w3.heap.size w3).drew.trans Z;have c1:=a6.o w hb;go_simp;exact ⟨rfl,RecW.ExtR.refl _⟩
 go_frame;refine GrowN.g_con rfl (λw Z J=>?_) ?_
 ·
  clear J;have hb:=(Below.refl w3.heap.size w3).drew.trans Z;obtain ⟨k0,k1⟩:=HK.o w hb;go_simp;exact RecW.ExtR.refl _
 go_frame;refine GrowN.g_con rfl (λw Z J=>?_) ?_
 ·
  clear J;have hb:=(Below.refl w3.heap.size w3).drew.trans Z;have hl:=a7.o w hb;go_simp;exact RecW.ExtR.refl _
 go_frame;refine GrowN.g_det rfl ?_;apply Exists.intro;refine ⟨λw Z J=>?_,?_⟩
 . clear J
   go_simp;exact ⟨rfl,RecW.ExtR.refl _⟩
 go_frame;refine GrowN.g_nil λw4 a8 J=>?_
 clear J;have b2:=zq ((Below.refl w3.heap.size w3).drew.trans a8);clear a8 a6 a7;have M:Zq (Below W.heap.size W w4):=F.o.trans (b2.o.mono F.o.size);obtain ⟨nx,ab⟩:∃ nx:Nat,nx=x.b0+x.R.e / 20:=⟨_,rfl⟩;have ac:=zq (am.o w4 M.o);rw [<- ab] at ac;have b3:=zq ab;clear am ab;go_wp2_with fail;refine ac.o.mono ?_;rintro e w6 ⟨rfl,ba⟩;have N:Zq (Below W.heap.size W w6):=M.o.trans ((ba.below _).mono M.o.size)
 have c0:w6.cell? ⟨x.blk,0,none⟩=some (.pointer (some ⟨x.R.blk,0,none⟩)):=by
  rw [Lib.cell_of_heap ((HC.o.below N.o).que x B.o).1]; rfl
 clear ba ac;go_wp2_with fail;refine (ap.o w6 N.o).mono ?_;rintro e w7 ⟨rfl,bb,D',R',bc,ha,bd,bh,bj⟩;have bk:=zq bb;have bl:=zq bc;have b5:=zq ha;have bm:=zq bd;have b6:=zq bh;have bo:=zq bj;clear bb bc ha bd bh bj ap c0;go_wp2_with fail;go_ret2;have h6:=N.o.size;have hR:=bm.o;exact ⟨by rw [<- b3.o]; rfl,R',D',CqAt.setAt (HC.o.below N.o) HL.o bk.o bw.o bl.o.seg (by rw [hR]) (by rw [hR]) bo.o,bl.o,b5.o,bm.o,λk hk=>(b6.o k hk).imp_right λh=>by omega,λk hk=>(bo.o k hk).imp_right λh=>by omega,(Mod.of_below N.o).trans bk.o⟩
end CqW
end Go.Proofs.YtcgonejkkpbepaaGreatDoor
