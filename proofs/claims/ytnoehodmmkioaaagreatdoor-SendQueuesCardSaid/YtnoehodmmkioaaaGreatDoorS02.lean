/- seg: Name, Place. And what follows. -/
import Derived.Test.YtnoehodmmkioaaaGreatDoorS01
import Derived.Test.YtnoehodmmkioaaaGreatDoorS00
import Derived.Lib.ItoaMem
import Derived.Shelf.Strings.SlTrimAscii
import Derived.Lib.LaidTab
import Derived.Lib.AppendIntMem
import Derived.Laws.OwnMore
import Derived.Laws.AppendOwn
import Derived.Test.YtnoehodmmkioaaaGreatDoorProg
import Derived.MapKept
import Derived.Deep.DeepCutAuto
import Derived.Maps.RangeRun
import Derived.Lib.AppendZerosOnto
import Derived.Lib.LazyBuf
import Derived.Maps.AppendAt
import Derived.LaidEqlPtr
set_option maxHeartbeats 25600000
set_option maxRecDepth 100000
set_option linter.unusedVariables false
set_option linter.unusedSimpArgs false
namespace Go.Proofs.YtnoehodmmkioaaaGreatDoor.SegW
open Go.RowKit OctMath
def Tab (w:World):Prop:=Lib.TabIs Tryz.prog w "internal/strconv.uint64pow10" .u64 Lib.pow10Tab
theorem Tab.below {W w:World} (h:Tab W) (hb:Below W.heap.size W w):Tab w:=Lib.tabBelow_of_tabIs h w hb
theorem repeat_one (c:UInt8):∀ n,Lib.repeatL [c] n=List.replicate n c
 | 0=>rfl
 | n+1=>by show c :: Lib.repeatL [c] n=_; rw [repeat_one c n]; rfl
theorem itoa_any (n:Nat) (w:World) (ht:Tab w) (hn:n≤9223372036854775807) :
 Calls Tryz.prog 187 #[.int .i64 (n:Int)] w fun e w'=>e=.returned (.string (S (Lib.decDigits n)))∧Below w.heap.size w w':=by
 refine (Tryz.strconv_Itoa (n:Int) (by omega) (by omega) w ht).mono ?_
 rintro e w' ⟨rfl,k,os,rfl⟩
 rw [Lib.itoa_nonneg]
 exact ⟨rfl,⟨rfl,rfl,rfl,by simp [Go.Sort.grow,World.drewN],fun j hj=>Go.Sort.heap_grow_old _ os hj⟩⟩
theorem repeat_any (c:UInt8) (n:Nat) (w:World) (hn:n≤1073741824) :
 Calls Tryz.prog 165 #[.string (S [c]),.int .i64 (n:Int)] w fun e w'=>e=.returned (.string (S (List.replicate n c)))∧Below w.heap.size w w':=by
 refine (Tryz.strings_Repeat (S [c]) n w (by omega) (by rw [S_size]; simp; omega)).mono ?_
 rintro e w' ⟨rfl,hb⟩
 rw [S_list,repeat_one]
 exact ⟨rfl,hb⟩
def nameR (hd:List UInt8) (n:Int):List UInt8:=if 0≤n∧n≤99999999 then nameL hd n.toNat else []
theorem Name_any (hd:List UInt8) (n:Int) (w:World) (ht:Tab w) (hn : -9223372036854775808≤n∧n≤9223372036854775807) (hh:hd.length≤1073741824) :
 Calls Tryz.prog 195 #[.string (S hd),.int .i64 n] w fun e w'=>e=.returned (.tuple #[.string (S (nameR hd n)),.bool (decide (0≤n∧n≤99999999))])∧Below w.heap.size w w':=by
 have hsz:=S_size
 by_cases h:0≤n∧n≤99999999
 ·
  obtain ⟨u,rfl⟩:∃ u:Nat,n=(u:Int):=⟨n.toNat,by omega⟩
  have hu:u≤99999999:=by omega
  have HR:Hid (nameR hd (u:Int)=hd++padL u):=by unfold nameR; rw [if_pos h]; rfl
  rw [decide_eq_true h]
  have hdl:=dec_len u hu
  have c1:=Lib.hid (itoa_any u w ht (by omega))
  have HT:=Lib.hid ht
  have HP:Hid (padL u=List.replicate (8 - (Lib.decDigits u).length) 48++Lib.decDigits u):=rfl
  clear ht
  generalize Lib.decDigits u=ds at *
  generalize nameR hd (u:Int)=r at *
  go_enter Tryz.func195,Tryz.ntmps195
  go_wp2_with fail
  refine c1.out.mono ?_
  rintro e w2 ⟨rfl,hb⟩
  have HB:=Lib.hid hb
  have c2:=Lib.hid (repeat_any 48 (8 - ds.length) w2 (by omega))
  rw [show ((8 - ds.length:Nat):Int)=8 - (ds.length:Int) by omega] at c2
  clear hb c1
  go_wp2_with fail
  refine c2.out.mono ?_
  rintro e w3 ⟨rfl,hb⟩
  have HB2:=Lib.hid hb
  clear hb c2
  go_wp2_with fail
  go_ret2
  rw [HR.out,HP.out,S_append,S_append,List.append_assoc]
  exact ⟨rfl,HB.out.trans (HB2.out.mono HB.out.size)⟩
 ·
  have HR:Hid (nameR hd n=[]):=by unfold nameR; rw [if_neg h]; rfl
  rw [decide_eq_false h]
  have hor:n < 0∨99999999 < n:=by omega
  clear ht
  generalize nameR hd n=r at *
  rcases hor with h1 | h1
  iterate 2
   · go_enter Tryz.func195,Tryz.ntmps195
     go_wp2_with fail
     go_ret2
     rw [HR.out]
     exact ⟨rfl,Below.refl _ _⟩
theorem trim_any (l:List UInt8) (w:World) (hl:l.length≤1073741824) :
 Calls Tryz.prog 244 #[.string (S l),.string (S digs)] w fun e w'=>e=.returned (.string (S (Lib.trimS l digs)))∧Below w.heap.size w w':=by
 have h:=Any.strings_Trim_laid Tryz.lays160 (by kernel_rfl) (S l) (S digs) w (by rw [S_size]; omega) (by rw [S_size]; decide) (ascii_of_all (by rw [S_list]; decide))
 rw [S_list,S_list] at h
 exact h
theorem cutPrefix_any (l p:List UInt8) (w:World) :
 Calls Tryz.prog 101 #[.string (S l),.string (S p)] w fun e w'=>e=.returned (.tuple #[.string (S (Lib.trimPrefix l p)),.bool (Lib.hasPrefix l p)])∧w'=w:=by
 have h:=Tryz.strings_CutPrefix (S l) (S p) w
 rw [S_list,S_list] at h
 exact h
theorem atoi_any (l:List UInt8) (h0:l≠[]) (h8:l.length≤8) (h:∀ c∈l,dig c=true) (w:World) :
 Calls Tryz.prog 245 #[.string (S l)] w fun e w'=>e=.returned (.tuple #[.int .i64 (numL l:Int),.nilIface])∧Below w.heap.size w w':=by
 refine (Tryz.strconv_Atoi_ok (S l) (by rw [S_size]; omega) (numL l) (by rw [S_list]; exact atoi_num l h0 h8 h) w).mono ?_
 rintro e w' ⟨rfl,hw⟩
 refine ⟨rfl,?_⟩
 rcases hw with rfl | ⟨t,rfl⟩
 · exact Below.refl _ _
 · exact Lib.bytesWorld_below _ _ _
def optN:Option Nat→Int
 | some n=>(n:Int)
 | none=>0
theorem Place_any (hd nm:List UInt8) (w:World) (hn:nm.length≤1073741824) :
 Calls Tryz.prog 217 #[.string (S hd),.string (S nm)] w fun e w'=>e=.returned (.tuple #[.int .i64 (optN (placeL hd nm)),.bool (placeL hd nm).isSome])∧Below w.heap.size w w':=by
 have hsz:=S_size
 have c1:=Lib.hid (cutPrefix_any nm hd w)
 obtain ⟨r,HR⟩:∃ r,Hid (r=placeL hd nm):=⟨_,rfl⟩
 rw [← HR.out]
 by_cases h1:Lib.hasPrefix nm hd=true
 ·
  have ht:Lib.trimPrefix nm hd=nm.drop hd.length:=by unfold Lib.trimPrefix; rw [if_pos h1]
  rw [h1,ht] at c1
  have HX:Hid (placeL hd nm=if (nm.drop hd.length).length=8∧∀ c∈nm.drop hd.length,dig c=true then some (numL (nm.drop hd.length)) else none):=by
   show _=_
   unfold placeL
   simp only [h1,true_and]
  have hl:(nm.drop hd.length).length≤1073741824:=by rw [List.length_drop]; omega
  rw [← HR.out] at HX
  clear h1 ht HR hn
  generalize nm.drop hd.length=d at *
  by_cases h8:d.length=8
  ·
   have c2:=Lib.hid (trim_any d w hl)
   by_cases hdg:∀ c∈d,dig c=true
   ·
    rw [(trim_digs d).2 hdg] at c2
    have hrx:r=some (numL d):=by rw [HX.out,if_pos ⟨h8,hdg⟩]
    subst hrx
    have hdn:d≠[]:=by intro e; rw [e] at h8; cases h8
    have HAT:Hid (∀ W:World,Calls Tryz.prog 245 #[.string (S d)] W fun e w'=>e=.returned (.tuple #[.int .i64 (numL d:Int),.nilIface])∧Below W.heap.size W w'):=fun W=>atoi_any d hdn (by omega) hdg W
    clear hdg HX hdn
    have hem:(S []).toList.isEmpty=true:=by rw [ByteArray.toList_eq,S_list]; rfl
    show Calls _ _ _ _ fun e w'=>e=.returned (.tuple #[.int .i64 (numL d:Int),.bool true])∧_
    generalize numL d=n at *
    go_enter Tryz.func217,Tryz.ntmps217
    go_wp2_with fail
    refine c1.out.mono ?_
    rintro e w' ⟨rfl,rfl⟩
    go_wp2_with fail
    refine c2.out.mono ?_
    rintro e w3 ⟨rfl,hb⟩
    have HB:=Lib.hid hb
    clear hb c2 c1
    go_wp2_with fail
    refine (HAT.out w3).mono ?_
    rintro e w4 ⟨rfl,hb⟩
    have HB2:=Lib.hid hb
    clear hb HAT
    go_wp2_with fail
    go_ret2
    exact ⟨rfl,HB.out.trans (HB2.out.mono HB.out.size)⟩
   ·
    have hrx:r=none:=by rw [HX.out,if_neg (fun h=>hdg h.2)]
    subst hrx
    have htn:(Lib.trimS d digs).length≠0:=by intro e; exact hdg ((trim_digs d).1 (List.length_eq_zero_iff.1 e))
    have hem:(S (Lib.trimS d digs)).toList.isEmpty=false:=by
     rw [ByteArray.toList_eq,S_list]
     cases hh:Lib.trimS d digs with
     | nil=>rw [hh] at htn; exact absurd rfl htn
     | cons _ _=>rfl
    clear hdg HX
    show Calls _ _ _ _ fun e w'=>e=.returned (.tuple #[.int .i64 0,.bool false])∧_
    generalize Lib.trimS d digs=y at *
    go_enter Tryz.func217,Tryz.ntmps217
    go_wp2_with fail
    refine c1.out.mono ?_
    rintro e w' ⟨rfl,rfl⟩
    go_wp2_with fail
    refine c2.out.mono ?_
    rintro e w3 ⟨rfl,hb⟩
    have HB:=Lib.hid hb
    clear hb c2 c1
    go_wp2_with fail
    go_ret2
    exact ⟨rfl,HB.out⟩
  ·
   have hrx:r=none:=by rw [HX.out,if_neg (fun h=>h8 h.1)]
   subst hrx
   clear HX
   show Calls _ _ _ _ fun e w'=>e=.returned (.tuple #[.int .i64 0,.bool false])∧_
   have h8i:¬ (d.length:Int)=8:=by omega
   go_enter Tryz.func217,Tryz.ntmps217
   go_wp2_with fail
   refine c1.out.mono ?_
   rintro e w' ⟨rfl,rfl⟩
   go_wp2_with fail
   go_ret2
   exact ⟨rfl,Below.refl _ _⟩
 ·
  rw [Bool.not_eq_true] at h1
  have hrx:r=none:=by rw [HR.out]; unfold placeL; rw [if_neg (fun h=>by rw [h1] at h; cases h.1)]
  subst hrx
  rw [h1] at c1
  clear h1 HR
  show Calls _ _ _ _ fun e w'=>e=.returned (.tuple #[.int .i64 0,.bool false])∧_
  generalize Lib.trimPrefix nm hd=y at *
  go_enter Tryz.func217,Tryz.ntmps217
  go_wp2_with fail
  refine c1.out.mono ?_
  rintro e w' ⟨rfl,rfl⟩
  go_wp2_with fail
  go_ret2
  exact ⟨rfl,Below.refl _ _⟩
end Go.Proofs.YtnoehodmmkioaaaGreatDoor.SegW
namespace Go.Proofs.YtnoehodmmkioaaaGreatDoor
open Go.RowKit
def Row1 (w:World) (a:Option Addr) (vs:List Value):Prop:=∀ i (h:i < vs.length),∃ b off,a=some ⟨b,off,none⟩∧w.cell? ⟨b,off+i,none⟩=some vs[i]
theorem Row1.below {W w:World} {a:Option Addr} {vs:List Value} (h:Row1 W a vs) (hb:Below W.heap.size W w):Row1 w a vs:=by
 intro i hi
 obtain ⟨b,off,rfl,hc⟩:=h i hi
 exact ⟨b,off,rfl,by rw [hb.cell (cell_lt hc)]; exact hc⟩
theorem Row1.mod {M:Nat→Prop} {W w:World} {a:Option Addr} {vs:List Value} (h:Row1 W a vs) (hb:Mod M W w) (hM:∀ ad,a=some ad→¬ M ad.block):Row1 w a vs:=by
 intro i hi
 obtain ⟨b,off,rfl,hc⟩:=h i hi
 exact ⟨b,off,rfl,by rw [hb.cell (p:=⟨b,off+i,none⟩) (cell_lt hc) (show ¬ M b from hM ⟨b,off,none⟩ rfl)]; exact hc⟩
theorem Row1.of_strs {w:World} {a:Option Addr} {ss:List ByteArray} (h:Strs w a ss):Row1 w a (ss.map .string):=by
 intro i hi
 obtain ⟨b,off,rfl,hc⟩:=h i (by simpa using hi)
 exact ⟨b,off,rfl,by rw [hc,List.getElem_map]⟩
theorem Row1.to_strs {w:World} {a:Option Addr} {ss:List ByteArray} (h:Row1 w a (ss.map .string)):Strs w a ss:=by
 intro i hi
 obtain ⟨b,off,rfl,hc⟩:=h i (by simpa using hi)
 exact ⟨b,off,rfl,by rw [hc,List.getElem_map]⟩
theorem Row1.of_own {w:World} {base n:Nat} {e:TypeId} {v:Value} {xs:List Value} (h:w.ownsRow base e 1 v n xs):∃ a cap,v=.slice a n cap∧Row1 w a xs∧xs.length=n:=by
 obtain ⟨hl,h⟩:=h
 rcases h with ⟨rfl,h0⟩ | ⟨g,cap,cur,rfl,hb,hg,hc1,hc2,hcs,hcur⟩
 · exact ⟨none,0,by rw [h0],fun i hi=>by omega,by omega⟩
 ·
  refine ⟨some ⟨g,0,none⟩,cap,rfl,fun i hi=>⟨g,0,rfl,?_⟩,by omega⟩
  unfold World.cell?
  rw [hg]
  have:cur[0+i]?=(cur.toList.take (n * 1))[i]?:=by
   rw [List.getElem?_take,if_pos (by omega)]; simp
  simp only [this,hcur]
  simp [hi]
section
variable {P:Program} {w:World}
end
theorem ownBlock_of_own {w:World} {base n:Nat} {e:TypeId} {sz:Nat} {v:Value} {xs:List Value} (h:w.ownsRow base e sz v n xs):∀ g,v.ownBlock=some g→base≤g:=by
 intro g hg
 rcases h.2 with ⟨rfl,_⟩ | ⟨g',cap,cur,rfl,hb,_⟩
 · cases hg
 · cases hg; exact hb
end Go.Proofs.YtnoehodmmkioaaaGreatDoor
namespace Go.Proofs.YtnoehodmmkioaaaGreatDoor.DskW
open Go.RowKit Go.MapKept OctMath
structure FileD where
 blk:Nat
 img:List UInt8
 now:List UInt8
structure WriteD where
 blk:Nat
 pos:Nat
 txt:List UInt8
def WriteD.cells (x:WriteD):List Value:=[.pointer (some ⟨x.blk,0,none⟩),.int .i64 (x.pos:Int),.string (S x.txt)]
def waitsL (l:List WriteD):List Value:=l.flatMap WriteD.cells
theorem waitsL_length (l:List WriteD):(waitsL l).length=l.length * 3:=by
 induction l with
 | nil=>rfl
 | cons x l ih =>
   show (x.cells++waitsL l).length=_
   rw [List.length_append,ih,List.length_cons]; show 3+_=_; omega
structure DiskD where
 blk:Nat
 left:Int
 down:Bool
 mB:Nat
 files:List (List UInt8×FileD)
 wv:Value
 waits:List WriteD
 cap:Int
def DiskD.foot (D:DiskD) (k:Nat):Prop:=k=D.blk∨k=D.mB∨(∃ p∈D.files,k=p.2.blk)∨D.wv.ownBlock=some k
def DiskD.head (D:DiskD):Array Value:=#[.int .i64 D.left,.bool D.down,.map (some D.mB),D.wv,.int .i64 D.cap]
def FileD.cells (f:FileD):Array Value:=#[.string (S f.img),.string (S f.now)]
def sizeL (l:List (List UInt8×FileD)):Nat:=(l.map fun p=>p.2.now.length).sum
def DiskD.size (D:DiskD):Nat:=sizeL D.files
structure DiskAt (base:Nat) (w:World) (D:DiskD):Prop where
 head:w.heap[D.blk]?=some (.cells D.head 78 (0,0))
 map:∃ es c,w.heap[D.mB]?=some (.map es c)∧Stamped es c∧es.toList.map (fun e=>(e.key,e.val))=D.files.map (fun p=>(.string (S p.1),.pointer (some ⟨p.2.blk,0,none⟩)))
 file:∀ p∈D.files,w.heap[p.2.blk]?=some (.cells p.2.cells 87 (0,0))
 row:w.ownsRow base 281 3 D.wv D.waits.length (waitsL D.waits)
 names:(D.files.map (·.1)).Nodup
 blocks:(D.files.map (·.2.blk)).Nodup
 apart:D.blk≠D.mB∧(∀ p∈D.files,p.2.blk≠D.blk∧p.2.blk≠D.mB)∧∀ k,D.wv.ownBlock=some k→k≠D.blk∧k≠D.mB∧∀ p∈D.files,k≠p.2.blk
 above:base≤D.blk∧base≤D.mB∧∀ p∈D.files,base≤p.2.blk
 ints : -1≤D.left∧D.left≤9223372036854775807∧0≤D.cap∧D.cap≤16777216
 fits:(D.size:Int)≤D.cap
 waitf:∀ x∈D.waits,∃ p∈D.files,p.2.blk=x.blk
theorem DiskAt.lt {base:Nat} {w:World} {D:DiskD} (h:DiskAt base w D) {k:Nat} (hk:D.foot k):k < w.heap.size:=by
 rcases hk with rfl | rfl | ⟨p,hp,rfl⟩ | hk
 · exact (Array.getElem?_eq_some_iff.1 h.head).1
 · obtain ⟨es,c,h1,_⟩:=h.map; exact (Array.getElem?_eq_some_iff.1 h1).1
 · exact (Array.getElem?_eq_some_iff.1 (h.file p hp)).1
 · rcases h.row.2 with ⟨e,_⟩ | ⟨g,cap,cur,e,_,hg,_⟩
   · rw [e] at hk; cases hk
   · rw [e] at hk; cases hk; exact (Array.getElem?_eq_some_iff.1 hg).1
theorem DiskAt.base_le {base:Nat} {w:World} {D:DiskD} (h:DiskAt base w D) {k:Nat} (hk:D.foot k):base≤k:=by
 rcases hk with rfl | rfl | ⟨p,hp,rfl⟩ | hk
 · exact h.above.1
 · exact h.above.2.1
 · exact h.above.2.2 p hp
 · exact ownBlock_of_own h.row k hk
theorem DiskAt.mod {base:Nat} {w w':World} {D:DiskD} {M:Nat→Prop} (h:DiskAt base w D) (hm:Mod M w w') (hM:∀ k,D.foot k→¬ M k):DiskAt base w' D:=by
 have key:∀ k,D.foot k→w'.heap[k]?=w.heap[k]?:=fun k hk=>hm.block k (h.lt hk) (hM k hk)
 obtain ⟨es,c,m1,m2,m3⟩:=h.map
 refine ⟨(key _ (.inl rfl)).trans h.head,⟨es,c,(key _ (.inr (.inl rfl))).trans m1,m2,m3⟩,fun p hp=>(key _ (.inr (.inr (.inl ⟨p,hp,rfl⟩)))).trans (h.file p hp),?_,h.names,h.blocks,h.apart,h.above,h.ints,h.fits,h.waitf⟩
 refine ⟨h.row.1,?_⟩
 rcases h.row.2 with h0 | ⟨g,cap,cur,e,hb,hg,r⟩
 · exact .inl h0
 · exact .inr ⟨g,cap,cur,e,hb,(key g (.inr (.inr (.inr (by rw [e]; rfl))))).trans hg,r⟩
theorem DiskAt.below {base:Nat} {w w':World} {D:DiskD} (h:DiskAt base w D) (hb:Below w.heap.size w w'):DiskAt base w' D :=
 h.mod (M:=fun _=>False) (Mod.of_below hb) (fun _ _ h=>h)
/-! what the calls make of it -/
def DiskD.find (D:DiskD) (n:List UInt8):Option FileD:=(D.files.find? fun p=>p.1 == n).map (·.2)
def DiskD.burn (D:DiskD):DiskD:=if D.left=0 then { D with left := -1,down:=true } else if 0 < D.left then { D with left:=D.left - 1 } else D
def DiskD.bars (D:DiskD) (ns:List (List UInt8)):Int:=if D.down then 8 else if ns.all fun n=>(D.find n).isSome then 0 else 9
theorem S_inj {a b:List UInt8} (h:S a=S b):a=b:=by
 have:=congrArg (fun x:ByteArray=>x.data.toList) h
 simpa [S] using this
def fileV (f:Option FileD):Value:=.pointer (f.map fun f=>⟨f.blk,0,none⟩)
theorem run_zero {P:Program} {t:TypeId} {i:TypeInfo} {z:Value} {w:World} (hi:P.info? t=some i) (hz:i.zero=some z):(zeroValue t).run P w=.ok z w:=by
 simp [zeroValue,typeInfo,hi,hz]
theorem lookup_file {base:Nat} {w:World} {D:DiskD} (h:DiskAt base w D) (n:List UInt8) :
 (Instr.lookup 75 (.map (some D.mB)) (.string (S n)) false).run Tryz.prog w=.ok (fileV (D.find n)) w:=by
 obtain ⟨es,c,hb,hst,hmap⟩:=h.map
 have hm:=Tryz.underlying75
 have hd:=Tryz.underlying9
 have hks:∀ x∈es.toList,IsKey .string x.key:=fun x hx=>by
  have:(x.key,x.val)∈D.files.map (fun p=>(Value.string (S p.1),Value.pointer (some ⟨p.2.blk,0,none⟩))):=by rw [← hmap]; exact List.mem_map.2 ⟨x,hx,rfl⟩
  obtain ⟨p,_,hp⟩:=List.mem_map.1 this
  have:x.key=.string (S p.1):=(Prod.mk.inj hp).1.symm
  rw [this]; trivial
 have hk:IsKey .string (.string (S n)):=trivial
 obtain ⟨i0,hi0,hz0⟩:∃ i,Tryz.prog.info? 85=some i∧i.zero=some (.pointer none):=by
  have:=(show (Tryz.prog.info? 85).map (fun i=>i.zero)=some (some (.pointer none)) by kernel_rfl)
  cases hh:Tryz.prog.info? 85 with
  | none=>rw [hh] at this; cases this
  | some i=>rw [hh] at this; exact ⟨i,rfl,Option.some.inj this⟩
 have hzr:=run_zero (w:=w) hi0 hz0
 have hfind:∀ (l:List (List UInt8×FileD)) (el:List MapEntry),el.map (fun e:MapEntry=>(e.key,e.val))=l.map (fun p=>(Value.string (S p.1),Value.pointer (some ⟨p.2.blk,0,none⟩))) →
  ((∀ x∈el,x.key≠.string (S n))→l.find? (fun p=>p.1 == n)=none) ∧
  ∀ (j:Nat) (e:MapEntry),el[j]?=some e→e.key=.string (S n)→(l.map (·.1)).Nodup→∃ p,l.find? (fun p=>p.1 == n)=some p∧e.val=.pointer (some ⟨p.2.blk,0,none⟩):=by
  intro l
  induction l with
  | nil=>intro el hel; cases el with
    | nil=>exact ⟨fun _=>rfl,fun j e he=>by cases he⟩
    | cons x el=>cases hel
  | cons p l ih =>
    intro el hel
    cases el with
    | nil=>cases hel
    | cons x el =>
      simp only [List.map_cons,List.cons.injEq,Prod.mk.injEq] at hel
      obtain ⟨⟨hx1,hx2⟩,hel⟩:=hel
      obtain ⟨ih1,ih2⟩:=ih el hel
      constructor
      · intro hn
        have h1:(p.1 == n)=false:=by
         rw [beq_eq_false_iff_ne]; intro e; exact hn x (.head _) (by rw [hx1,e])
        rw [List.find?_cons,h1]
        exact ih1 fun y hy=>hn y (.tail _ hy)
      ·
       intro j e he hek hnd
       simp only [List.map_cons,List.nodup_cons] at hnd
       cases j with
       | zero =>
         simp only [List.getElem?_cons_zero,Option.some.injEq] at he
         subst he
         have:p.1=n:=S_inj (by rw [hx1] at hek; cases hek; rfl)
         refine ⟨p,by rw [List.find?_cons,show (p.1 == n)=true from by simp [this]],hx2⟩
       | succ j =>
         simp only [List.getElem?_cons_succ] at he
         have hmem:n∈l.map (·.1):=by
          have:(e.key,e.val)∈l.map (fun p=>(Value.string (S p.1),Value.pointer (some ⟨p.2.blk,0,none⟩))):=by rw [← hel]; exact List.mem_map.2 ⟨e,List.mem_of_getElem? he,rfl⟩
          obtain ⟨q,hq,hqe⟩:=List.mem_map.1 this
          have h2:=(Prod.mk.inj hqe).1
          rw [hek] at h2
          have:q.1=n:=S_inj (by cases h2; rfl)
          exact List.mem_map.2 ⟨q,hq,this⟩
         have h1:(p.1 == n)=false:=by
          rw [beq_eq_false_iff_ne]; intro e'; exact hnd.1 (e' ▸ hmem)
         rw [List.find?_cons,h1]
         exact ih2 j e he hek hnd.2
 have hF:=hfind D.files es.toList hmap
 rcases findNow_spec hk es.toList 0 hks with ⟨h1,h2⟩ | ⟨j,e,h1,h2,h3⟩
 · have:=hF.1 h2
   simp [Instr.lookup,run_underlying hm,Go.MapKept.run_getObj_map hb,Go.MapKept.run_checkKey hd hk,Go.MapKept.run_findKey hd h1,Result.andThen,hzr,DiskD.find,this,fileV]
 · obtain ⟨p,hp,hv⟩:=hF.2 j e h2 h3 h.names
   simp [Instr.lookup,run_underlying hm,Go.MapKept.run_getObj_map hb,Go.MapKept.run_checkKey hd hk,Go.MapKept.run_findKey hd h1,Result.andThen,DiskD.find,hp,hv,fileV]
theorem DiskAt.cell {base:Nat} {w:World} {D:DiskD} (h:DiskAt base w D) (i:Nat) (v:Value) (hv:D.head[i]?=some v):w.cell? ⟨D.blk,i,none⟩=some v:=by
 unfold World.cell?; rw [show w.heap[(⟨D.blk,i,none⟩:Addr).block]?=_ from h.head]; exact hv
theorem DiskAt.frozen {base:Nat} {w:World} {D:DiskD} (h:DiskAt base w D) (i:Nat):w.frozen? ⟨D.blk,i,none⟩=false:=by
 unfold World.frozen?; rw [show w.heap[(⟨D.blk,i,none⟩:Addr).block]?=_ from h.head]; rfl
theorem new_disk (base:Nat) (w:World) (hb:base≤w.heap.size) (cap:Int) (hc:0≤cap∧cap≤16777216) :
 DiskAt base ((w.alloc (.map #[] 0)).alloc (.cells #[.int .i64 (-1),.bool false,.map (some w.heap.size),.slice none 0 0,.int .i64 cap] 78)) ⟨w.heap.size+1,-1,false,w.heap.size,[],.slice none 0 0,[],cap⟩:=by
 have hs:(w.alloc (.map #[] 0)).heap.size=w.heap.size+1:=World.size_alloc _ _
 refine ⟨?_,⟨#[],0,?_,stamped_empty 0,rfl⟩,fun p hp=>(by cases hp),⟨rfl,.inl ⟨rfl,rfl⟩⟩,List.nodup_nil,List.nodup_nil,⟨by show w.heap.size+1≠w.heap.size; omega,fun p hp=>(by cases hp),fun k hk=>(by cases hk)⟩,⟨by show base≤w.heap.size+1; omega,hb,fun p hp=>(by cases hp)⟩,⟨by show (-1:Int) ≤ -1; omega,by show (-1:Int)≤_; omega,hc.1,hc.2⟩,hc.1,fun x hx=>(by cases hx)⟩
 · show _[w.heap.size+1]?=_
   rw [← hs]; exact heap_alloc_new _ _
 · show _[w.heap.size]?=_
   rw [Below.heap_alloc _ _ _ (by rw [hs]; omega)]; exact heap_alloc_new _ _
theorem new_any (c:Int) (base:Nat) (w:World) (hb:base≤w.heap.size) :
 Calls Tryz.prog 7 #[.int .i64 c] w fun e w'=>∃ D,e=.returned (.pointer (some ⟨D.blk,0,none⟩))∧DiskAt base w' D∧Below w.heap.size w w'∧w.heap.size≤D.blk∧w.heap.size≤D.mB ∧
  D.left = -1∧D.down=false∧D.files=[]∧D.waits=[]∧D.wv=.slice none 0 0∧D.cap=min (max c 0) 16777216:=by
 have hmk:∀ w:World,(Instr.makeMap 75 none).run Tryz.prog w=.ok (.map (some w.heap.size)) (w.alloc (.map #[] 0)):=fun _=>rfl
 have hbel:∀ o,Below w.heap.size w ((w.alloc (.map #[] 0)).alloc o):=fun o=>((Below.refl _ _).alloc (Nat.le_refl _) _).alloc (by simp) _
 have hnd:=new_disk base w hb
 have HB:=Lib.hid hbel
 have HN:=Lib.hid hnd
 clear hbel hnd hb
 go_enter Tryz.func7,Tryz.ntmps7
 go_wp2_with fail
 all_goals
  go_ret
  refine ⟨_,rfl,HN.out _ (by omega),HB.out _,by simp,Nat.le_refl _,rfl,rfl,rfl,rfl,rfl,?_⟩
  first | (dsimp only; done) | (dsimp only; omega)
theorem down_any {base:Nat} {D:DiskD} (w:World) (h:DiskAt base w D) :
 Calls Tryz.prog 107 #[.pointer (some ⟨D.blk,0,none⟩)] w fun e w'=>e=.returned (.bool D.down)∧w'=w:=by
 have c1:w.cell? ⟨D.blk,1,none⟩=some (.bool D.down):=h.cell 1 _ rfl
 clear h
 go_enter Tryz.func107,Tryz.ntmps107
 go_wp2_with fail
 go_ret
 exact ⟨rfl,rfl⟩
theorem bars_any {base:Nat} {D:DiskD} (a:Option Addr) (cap:Nat) (ns:List (List UInt8)) (hns:ns.length≤1048576) (w:World) (h:DiskAt base w D) (hr:Row1 w a (ns.map fun x=>.string (S x))) :
 Calls Tryz.prog 150 #[.pointer (some ⟨D.blk,0,none⟩),.slice a ns.length cap] w fun e w'=>e=.returned (.int .i64 (D.bars ns))∧w'=w:=by
 have c1:w.cell? ⟨D.blk,1,none⟩=some (.bool D.down):=h.cell 1 _ rfl
 have c2:w.cell? ⟨D.blk,2,none⟩=some (.map (some D.mB)):=h.cell 2 _ rfl
 have HL:=Lib.hid (fun n=>lookup_file h n)
 have HH:=Lib.hid hr
 have HB:Hid (D.bars ns=if D.down then 8 else if ns.all fun n=>(D.find n).isSome then 0 else 9):=rfl
 clear h hr
 generalize D.down=dn at *
 cases dn
 ·
  go_enter Tryz.func150,Tryz.ntmps150
  go_wp2_with fail
  go_loopw [18] (fun i wr=>∃ k:Nat,k≤ns.length∧i=.int .i64 (k:Int)∧Hid ((ns.take k).all fun n=>(D.find n).isSome)∧wr=w) (fun i _=>ns.length+1 - (intOf i).toNat)
  case atStart=>exact ⟨0,by omega,rfl,rfl,rfl⟩
  case round =>
   obtain ⟨k,hk,rfl,HA,rfl⟩:=hrel
   by_cases hlt:k < ns.length
   ·
    obtain ⟨b,off,hbo,hcell⟩:=HH.out k (by rw [List.length_map]; exact hlt)
    rw [List.getElem_map] at hcell
    have hlk:=HL.out ns[k]
    have hst:(ns.take (k+1)).all (fun n=>(D.find n).isSome)=((ns.take k).all (fun n=>(D.find n).isSome) && (D.find ns[k]).isSome):=by
     rw [List.take_succ_eq_append_getElem hlt,List.all_append]; simp
    have hno:(D.find ns[k]).isSome=false→(ns.all fun n=>(D.find n).isSome)=false:=fun h=>by
     rw [List.all_eq_false]; exact ⟨ns[k],List.getElem_mem hlt,by rw [h]; simp⟩
    have HST:=Lib.hid hst
    have HNO:=Lib.hid hno
    clear hst hno
    generalize ns[k]=x at *
    generalize D.find x=f at *
    rw [hbo] at *
    cases f with
    | none =>
      have HT:Hid (D.bars ns=9):=by show _=_; rw [HB.out,HNO.out rfl]; rfl
      clear HST HNO HB
      unfold fileV at hlk
      simp only [Option.map_none] at hlk
      go_wp2_with fail
      go_ret
      rw [HT.out]
      exact ⟨rfl,rfl⟩
    | some f =>
      have HA2:Hid ((ns.take (k+1)).all (fun n=>(D.find n).isSome)=true):=by show _=_; rw [HST.out,HA.out]; rfl
      clear HST HNO HA
      unfold fileV at hlk
      simp only [Option.map_some] at hlk
      go_wp2_with fail
      go_roundw
      case rel=>exact ⟨k+1,by omega,by go_num,HA2,trivial⟩
      case measure=>simp [intOf]; omega
   ·
    obtain rfl:k=ns.length:=by omega
    rw [List.take_length] at HA
    have HT:Hid (D.bars ns=0):=by show _=_; rw [HB.out,HA.out]; rfl
    clear HB
    go_wp2_with fail
    go_ret
    rw [HT.out]
    exact ⟨rfl,rfl⟩
 ·
  go_enter Tryz.func150,Tryz.ntmps150
  go_wp2_with fail
  go_ret
  rw [HB.out]
  exact ⟨rfl,rfl⟩
theorem DiskAt.rehead {base:Nat} {w w':World} {D:DiskD} (h:DiskAt base w D) (l:Int) (d:Bool) (hl : -1≤l∧l≤9223372036854775807) (hm:Mod (fun k=>k=D.blk) w w')
 (hh:w'.heap[D.blk]?=some (.cells ({ D with left:=l,down:=d }:DiskD).head 78 (0,0))):DiskAt base w' { D with left:=l,down:=d }:=by
 have key:∀ k,D.foot k→k≠D.blk→w'.heap[k]?=w.heap[k]?:=fun k hk hne=>hm.block k (h.lt hk) hne
 obtain ⟨es,c,m1,m2,m3⟩:=h.map
 refine ⟨hh,⟨es,c,(key _ (.inr (.inl rfl)) (fun e=>h.apart.1 e.symm)).trans m1,m2,m3⟩,fun p hp=>(key _ (.inr (.inr (.inl ⟨p,hp,rfl⟩))) (h.apart.2.1 p hp).1).trans (h.file p hp),?_,h.names,h.blocks,h.apart,h.above,⟨hl.1,hl.2,h.ints.2.2⟩,h.fits,h.waitf⟩
 refine ⟨h.row.1,?_⟩
 rcases h.row.2 with h0 | ⟨g,cap,cur,e,hb,hg,r⟩
 · exact .inl h0
 · have hown:D.wv.ownBlock=some g:=by rw [e]; rfl
   exact .inr ⟨g,cap,cur,e,hb,(key g (.inr (.inr (.inr hown))) (h.apart.2.2 g hown).1).trans hg,r⟩
theorem heap_set1 {w:World} {B i:Nat} {cs:Array Value} {ty:TypeId} (h:w.heap[B]?=some (.cells cs ty (0,0))) (v:Value) {cs':Array Value} (he:cs.setIfInBounds i v=cs') :
 (w.setCell ⟨B,i,none⟩ v).heap[B]?=some (.cells cs' ty (0,0)):=by rw [← he]; exact heap_setCell_same w B i cs ty v h
theorem mod_set (w:World) (B i:Nat) (v:Value):Mod (fun k=>k=B) w (w.setCell ⟨B,i,none⟩ v):=(Mod.refl (fun k=>k=B) w).setCell (a:=⟨B,i,none⟩) (.inl rfl) v
theorem burn_any {base:Nat} {D:DiskD} (w:World) (h:DiskAt base w D) :
 Calls Tryz.prog 200 #[.pointer (some ⟨D.blk,0,none⟩)] w fun e w'=>e=.returned (.bool (!decide (D.left=0)))∧DiskAt base w' D.burn∧Mod (fun k=>k=D.blk) w w':=by
 have c0:w.cell? ⟨D.blk,0,none⟩=some (.int .i64 D.left):=h.cell 0 _ rfl
 have c1:w.cell? ⟨D.blk,1,none⟩=some (.bool D.down):=h.cell 1 _ rfl
 have hfr:=h.frozen
 have hl1:=h.ints.1
 have hl2:=h.ints.2.1
 have HD:=Lib.hid h
 have HB:Hid (D.burn=if D.left=0 then { D with left := -1,down:=true } else if 0 < D.left then { D with left:=D.left - 1 } else D):=rfl
 clear h
 by_cases h0:D.left=0
 ·
  have hm:Hid (Mod (fun k=>k=D.blk) w ((w.setCell ⟨D.blk,0,none⟩ (.int .i64 (-1))).setCell ⟨D.blk,1,none⟩ (.bool true))):=(mod_set _ _ _ _).trans (mod_set _ _ _ _)
  have hh:Hid (((w.setCell ⟨D.blk,0,none⟩ (.int .i64 (-1))).setCell ⟨D.blk,1,none⟩ (.bool true)).heap[D.blk]?=some (.cells ({ D with left := -1,down:=true }:DiskD).head 78 (0,0))) :=
   heap_set1 (heap_set1 HD.out.head _ rfl) _ rfl
  rw [h0] at c0
  go_enter Tryz.func200,Tryz.ntmps200
  go_wp2_with fail
  go_ret
  refine ⟨by rw [h0]; rfl,?_,hm.out⟩
  rw [HB.out,if_pos h0]
  exact HD.out.rehead _ _ (by omega) hm.out hh.out
 ·
  have e1:(D.left == 0)=false:=by simp [h0]
  have hd:decide (D.left=0)=false:=decide_eq_false h0
  by_cases h1:0 < D.left
  ·
   have hm:Hid (Mod (fun k=>k=D.blk) w (w.setCell ⟨D.blk,0,none⟩ (.int .i64 (D.left - 1)))):=mod_set _ _ _ _
   have hh:Hid ((w.setCell ⟨D.blk,0,none⟩ (.int .i64 (D.left - 1))).heap[D.blk]?=some (.cells ({ D with left:=D.left - 1 }:DiskD).head 78 (0,0))):=heap_set1 HD.out.head _ rfl
   have e2:decide (0 < D.left)=true:=decide_eq_true h1
   go_enter Tryz.func200,Tryz.ntmps200
   go_wp2_with fail
   go_ret
   refine ⟨by rw [hd]; rfl,?_,hm.out⟩
   rw [HB.out,if_neg h0,if_pos h1]
   exact HD.out.rehead _ D.down (by omega) hm.out hh.out
  ·
   have e2:decide (0 < D.left)=false:=decide_eq_false h1
   go_enter Tryz.func200,Tryz.ntmps200
   go_wp2_with fail
   go_ret
   refine ⟨by rfl,?_,Mod.refl _ _⟩
   rw [HB.out,if_neg h0,if_neg (by omega)]
   exact HD.out
def DiskD.done (D:DiskD):Int:=if D.left=0 then 8 else 0
theorem done_any {base:Nat} {D:DiskD} (w:World) (h:DiskAt base w D) :
 Calls Tryz.prog 151 #[.pointer (some ⟨D.blk,0,none⟩)] w fun e w'=>e=.returned (.int .i64 D.done)∧DiskAt base w' D.burn∧Mod (fun k=>k=D.blk) w w':=by
 have HC:=Lib.hid (burn_any w h)
 have HF:Hid (D.done=if D.left=0 then 8 else 0):=rfl
 clear h
 go_enter Tryz.func151,Tryz.ntmps151
 go_wp2_with fail
 refine HC.out.mono ?_
 rintro e w2 ⟨rfl,hd,hm⟩
 have HD:=Lib.hid hd
 have HM:=Lib.hid hm
 clear hd hm HC
 by_cases h0:D.left=0
 ·
  have hd:decide (D.left=0)=true:=decide_eq_true h0
  rw [if_pos h0] at HF
  rw [hd]
  go_wp2_with fail
  go_ret
  rw [HF.out]
  exact ⟨rfl,HD.out,HM.out⟩
 ·
  have hd:decide (D.left=0)=false:=decide_eq_false h0
  rw [if_neg h0] at HF
  rw [hd]
  go_wp2_with fail
  go_ret
  rw [HF.out]
  exact ⟨rfl,HD.out,HM.out⟩
open Go.ChangeMaps
/-! a loop over a map's entries: each comes once -/
theorem leftOf_push (es:Array MapEntry) (seen:Array Nat) (b:Nat):(leftOf es (seen.push b)).toList=(leftOf es seen).toList.filter (fun x=>!(x.born == b)):=by
 unfold leftOf
 simp only [Array.toList_filter,List.filter_filter]
 apply List.filter_congr
 intro x _
 simp only [Array.contains_push]
 cases h1:seen.contains x.born <;> cases h2:(x.born == b) <;> simp_all
theorem leftOf_nil (es:Array MapEntry):(leftOf es #[]).toList=es.toList:=by
 unfold leftOf
 simp
theorem leftOf_nodup {es:Array MapEntry} (h:(es.toList.map (·.born)).Nodup) (seen:Array Nat):((leftOf es seen).toList.map (·.born)).Nodup:=by
 unfold leftOf
 rw [Array.toList_filter]
 exact (List.filter_sublist.map _).nodup h
theorem sum_strike (f:MapEntry→Nat):∀ (l:List MapEntry) (e:MapEntry),e∈l→(l.map (·.born)).Nodup→(l.map f).sum=f e+((l.filter fun x=>!(x.born == e.born)).map f).sum∧(l.filter fun x=>!(x.born == e.born)).length+1=l.length:=by
 intro l
 induction l with
 | nil=>intro e he; cases he
 | cons x l ih =>
   intro e he hn
   simp only [List.map_cons,List.nodup_cons] at hn
   rcases List.mem_cons.1 he with rfl | he
   ·
    have hno:l.filter (fun x=>!(x.born == e.born))=l:=by
     rw [List.filter_eq_self]
     intro y hy
     simp only [Bool.not_eq_true',beq_eq_false_iff_ne]
     intro h; exact hn.1 (h ▸ List.mem_map.2 ⟨y,hy,rfl⟩)
    rw [List.filter_cons_of_neg (by simp),hno]
    exact ⟨by simp,rfl⟩
   ·
    have hne:(x.born == e.born)=false:=by
     rw [beq_eq_false_iff_ne]; intro h; exact hn.1 (h ▸ List.mem_map.2 ⟨e,he,rfl⟩)
    obtain ⟨h1,h2⟩:=ih e he hn.2
    rw [List.filter_cons_of_pos (by rw [hne]; rfl)]
    simp only [List.map_cons,List.sum_cons,List.length_cons,h1]
    exact ⟨by omega,by omega⟩
def wtL (fs:List (List UInt8×FileD)) (v:Value):Nat:=match v with
 | .pointer (some a)=>((fs.find? fun p=>p.2.blk == a.block).map (·.2.now.length)).getD 0
 | _=>0
theorem find_blk:∀ (fs:List (List UInt8×FileD)),(fs.map (·.2.blk)).Nodup→∀ p∈fs,fs.find? (fun q=>q.2.blk == p.2.blk)=some p:=by
 intro fs
 induction fs with
 | nil=>intro _ p hp; cases hp
 | cons x l ih =>
   intro hn p hp
   simp only [List.map_cons,List.nodup_cons] at hn
   rcases List.mem_cons.1 hp with rfl | hp
   · simp
   · have hne:(x.2.blk == p.2.blk)=false:=by
      rw [beq_eq_false_iff_ne]; intro h; exact hn.1 (h ▸ List.mem_map.2 ⟨p,hp,rfl⟩)
     rw [List.find?_cons,hne]
     exact ih hn.2 p hp
theorem sum_wt {fs:List (List UInt8×FileD)} {l:List MapEntry} (hn:(fs.map (·.2.blk)).Nodup) (h:l.map (fun e:MapEntry=>(e.key,e.val))=fs.map (fun p=>(Value.string (S p.1),Value.pointer (some ⟨p.2.blk,0,none⟩)))) :
 (l.map fun e=>wtL fs e.val).sum=sizeL fs:=by
 have h2:l.map (fun e=>wtL fs e.val)=(l.map (fun e:MapEntry=>(e.key,e.val))).map (fun q=>wtL fs q.2):=by rw [List.map_map]; rfl
 rw [h2,h,List.map_map]
 unfold sizeL
 congr 1
 apply List.map_congr_left
 intro p hp
 show wtL fs (.pointer (some ⟨p.2.blk,0,none⟩))=_
 show ((fs.find? fun q=>q.2.blk == p.2.blk).map (·.2.now.length)).getD 0=_
 rw [find_blk fs hn p hp]; rfl
theorem entry_file {fs:List (List UInt8×FileD)} {l:List MapEntry} (h:l.map (fun e:MapEntry=>(e.key,e.val))=fs.map (fun p=>(Value.string (S p.1),Value.pointer (some ⟨p.2.blk,0,none⟩)))) {e:MapEntry} (he:e∈l) :
 ∃ p∈fs,e.key=.string (S p.1)∧e.val=.pointer (some ⟨p.2.blk,0,none⟩):=by
 have:(e.key,e.val)∈fs.map (fun p=>(Value.string (S p.1),Value.pointer (some ⟨p.2.blk,0,none⟩))):=by rw [← h]; exact List.mem_map.2 ⟨e,he,rfl⟩
 obtain ⟨p,hp,hq⟩:=List.mem_map.1 this
 exact ⟨p,hp,(Prod.mk.inj hq).1.symm,(Prod.mk.inj hq).2.symm⟩
structure Iter (w:World) (b r:Nat) (es:Array MapEntry) (clk:Nat) (seen:Array Nat):Prop where
 map:w.heap[b]?=some (.map es clk)
 iter:w.heap[r]?=some (.mapIter (some b) clk seen clk)
theorem iter_next {w:World} {b r:Nat} {es:Array MapEntry} {clk:Nat} {seen:Array Nat} (h:Iter w b r es clk seen) (hne:r≠b) (hst:Stamped es clk) (P:Program) (ty:TypeId) :
 ((leftOf es seen).size=0∧(Instr.next (.pointer (some ⟨r,0,none⟩)) false ty).run P w=.ok (.tuple #[.bool false]) w) ∨
 ∃ e∈(leftOf es seen).toList,∃ w1:World,Iter w1 b r es clk (seen.push e.born)∧Mod (fun k=>k=r) w w1∧(Instr.next (.pointer (some ⟨r,0,none⟩)) false ty).run P w=.ok (.tuple #[.bool true,e.key,e.val]) w1 ∧
  (Instr.entry (.pointer (some ⟨r,0,none⟩))).run P w1=.ok (.tuple #[e.key,e.val]) w1:=by
 rcases run_next_at (P:=P) w ty r b clk clk seen es clk h.iter h.map hst.1 (Nat.le_refl _) with h0 | ⟨e,he,w1,hw1,hrun⟩
 · exact .inl h0
 ·
  right
  have hr1:w1.heap[r]?=some (.mapIter (some b) clk seen clk):=by rcases hw1 with rfl | rfl <;> exact h.iter
  have hb1:w1.heap[b]?=some (.map es clk):=by rcases hw1 with rfl | rfl <;> exact h.map
  have hrl:r < w1.heap.size:=(Array.getElem?_eq_some_iff.1 hr1).1
  have hi:Iter (setBlock w1 r (.mapIter (some b) clk (seen.push e.born) clk)) b r es clk (seen.push e.born):=by
   refine ⟨?_,?_⟩
   · show (w1.heap.setIfInBounds r _)[b]?=_
     rw [Array.getElem?_setIfInBounds_ne hne]; exact hb1
   · show (w1.heap.setIfInBounds r _)[r]?=_
     simp [hrl]
  have hee:e∈es.toList:=by
   unfold leftOf at he
   rw [Array.toList_filter] at he
   exact (List.mem_filter.1 he).1
  refine ⟨e,he,_,hi,?_,hrun,run_entry_at _ r b clk seen es clk e hi.iter hi.map hee hst.2.1⟩
  have hm1:Mod (fun k=>k=r) w w1:=by
   rcases hw1 with rfl | rfl
   · exact Mod.refl _ _
   · exact (Mod.refl _ _).drew
  refine hm1.trans ⟨rfl,rfl,rfl,by simp [setBlock],fun k hk hkr=>?_⟩
  show (w1.heap.setIfInBounds r _)[k]?=_
  exact Array.getElem?_setIfInBounds_ne (fun e=>hkr e.symm)
theorem size_any {base:Nat} {D:DiskD} (w:World) (h:DiskAt base w D) :
 Calls Tryz.prog 10 #[.pointer (some ⟨D.blk,0,none⟩)] w fun e w'=>e=.returned (.int .i64 (D.size:Int))∧Below w.heap.size w w':=by
 have c2:w.cell? ⟨D.blk,2,none⟩=some (.map (some D.mB)):=h.cell 2 _ rfl
 obtain ⟨es,clk,hb,hst,hmap⟩:=h.map
 have hm:=Tryz.underlying75
 have hrg:(Instr.range 75 (.map (some D.mB))).run Tryz.prog w=.ok (.pointer (some ⟨w.heap.size,0,none⟩)) (w.alloc (.mapIter (some D.mB) clk #[] clk)):=by
  simp [Instr.range,run_underlying hm,Go.MapKept.run_getObj_map hb,Result.andThen]
 have HD:=Lib.hid h
 clear h
 go_enter Tryz.func10,Tryz.ntmps10
 go_wp2_with fail
 have hlt:D.mB < w.heap.size:=(Array.getElem?_eq_some_iff.1 hb).1
 have HS:Hid ((es.toList.map fun e=>wtL D.files e.val).sum=D.size):=sum_wt HD.out.blocks hmap
 have HM:=Lib.hid hmap
 have HI:Hid (Iter (w.alloc (.mapIter (some D.mB) clk #[] clk)) D.mB w.heap.size es clk #[]):=⟨(Below.heap_alloc _ _ _ (by omega)).trans hb,heap_alloc_new _ _⟩
 have HB:Hid (Below w.heap.size w (w.alloc (.mapIter (some D.mB) clk #[] clk))):=(Below.refl _ _).alloc (Nat.le_refl _) _
 have HST:=Lib.hid hst
 have hfit:(D.size:Int)≤16777216:=by have h1:=HD.out.fits; have h2:=HD.out.ints; omega
 clear hmap hb hst hm hrg
 generalize w.alloc (.mapIter (some D.mB) clk #[] clk)=w1 at *
 generalize hr:w.heap.size=r at *
 have hwr:w.heap.size=r:=hr
 clear hr
 obtain ⟨sz,hsz⟩:∃ s,D.size=s:=⟨_,rfl⟩
 rw [hsz] at HS hfit
 have HSZ:=Lib.hid hsz
 clear hsz
 go_loopw [3] (fun i wr=>∃ (seen:Array Nat) (k:Nat),i=.int .i64 (k:Int)∧Hid (k+((leftOf es seen).toList.map fun e=>wtL D.files e.val).sum=sz)∧Hid (Iter wr D.mB r es clk seen)∧Hid (Below r w wr)) (fun _ wr=>match wr.heap[D.mB]?,wr.heap[r]? with | some (.map es _),some (.mapIter _ _ seen _)=>(leftOf es seen).size | _,_=>0)
 case atStart=>exact ⟨#[],0,rfl,by show _=_; rw [leftOf_nil,HS.out]; omega,HI.out,HB.out⟩
 case round =>
  obtain ⟨seen,k,rfl,HK,HI2,HB2⟩:=hrel
  clear HI HB
  rcases iter_next HI2.out (by omega) HST.out Tryz.prog 0 with ⟨h0,hrun⟩ | ⟨e,he,w2,hi,hm,hrun,hent⟩
  ·
   have hnil:(leftOf es seen).toList=[]:=by rw [← List.length_eq_zero_iff,Array.length_toList]; exact h0
   have HKS:Hid (k=sz):=by show _=_; have:=HK.out; rw [hnil] at this; simpa using this
   clear HK hnil h0 HI2 HST
   go_wp2_with fail
   go_ret
   rw [HSZ.out,HKS.out]
   exact ⟨rfl,by rw [hwr]; exact HB2.out⟩
  ·
   have hmem:e∈es.toList:=by
    unfold leftOf at he
    rw [Array.toList_filter] at he
    exact (List.mem_filter.1 he).1
   obtain ⟨p,hp,hkey,hval⟩:=entry_file HM.out hmem
   have hmb:Below r wr w2:=hm.to_below r (by have:=HB2.out.size; omega) (fun k hk=>by omega)
   have HB3:=Lib.hid (HB2.out.trans hmb)
   have hc:w2.cell? ⟨p.2.blk,1,none⟩=some (.string (S p.2.now)):=by
    have:=(HD.out.below (hwr ▸ HB3.out)).file p hp
    unfold World.cell?; rw [show w2.heap[(⟨p.2.blk,1,none⟩:Addr).block]?=_ from this]; rfl
   have hw:wtL D.files e.val=p.2.now.length:=by
    rw [hval]
    show ((D.files.find? fun q=>q.2.blk == p.2.blk).map (·.2.now.length)).getD 0=_
    rw [find_blk D.files HD.out.blocks p hp]; rfl
   obtain ⟨s1,s2⟩:=sum_strike (fun e=>wtL D.files e.val) _ e he (leftOf_nodup HST.out.2.1 seen)
   rw [← leftOf_push] at s1 s2
   have HK2:Hid (k+p.2.now.length+((leftOf es (seen.push e.born)).toList.map fun e=>wtL D.files e.val).sum=sz):=by show _=_; have:=HK.out; omega
   have HS2:Hid ((leftOf es (seen.push e.born)).size < (leftOf es seen).size):=by show _ < _; rw [← Array.length_toList,← Array.length_toList]; omega
   have HI3:=Lib.hid hi
   have hkb:(k:Int)+(p.2.now.length:Int)≤16777216:=by have:=HK2.out; omega
   have hsz:=S_size
   rw [hkey,hval] at hrun hent
   clear he hmem hkey hval hw s1 s2 HK hi hm hmb
   generalize p.2.now=nw at *
   generalize p.2.blk=pb at *
   go_wp2_with fail
   go_roundw
   case rel=>exact ⟨seen.push e.born,k+nw.length,by go_num,HK2,HI3,HB3⟩
   case measure =>
    rw [HI3.out.map,HI3.out.iter,HI2.out.map,HI2.out.iter]
    exact HS2.out
def Ext (u v:World):Prop:=Below u.heap.size u v
theorem Ext.refl (w:World):Ext w w:=Below.refl _ _
theorem Ext.trans {u v w:World} (h:Ext u v) (k:Ext v w):Ext u w:=Below.trans h (Below.mono k h.size)
def DiskD.room (D:DiskD):Int:=D.cap - (D.size:Int)
theorem room_any {base:Nat} {D:DiskD} (w:World) (h:DiskAt base w D) :
 Calls Tryz.prog 13 #[.pointer (some ⟨D.blk,0,none⟩)] w fun e w'=>e=.returned (.int .i64 D.room)∧Below w.heap.size w w':=by
 have HD:=Lib.hid h
 have HR:Hid (D.room=D.cap - (D.size:Int)):=rfl
 have h1:=h.ints.2.2
 have h2:=h.fits
 have hwr:IntKind.i64.wrap (D.cap - (D.size:Int))=D.cap - (D.size:Int):=IntWalk.i64_in _ (by omega)
 clear h
 go_enter Tryz.func13,Tryz.ntmps13
 go_wp2_with fail
 refine Grow.wp_region_g 8 [none,none,none,some (.inl (.int .i64 D.cap)),none,some (.inl (.int .i64 (D.size:Int))),none,none] Ext (by kernel_rfl) (by kernel_rfl) (by kernel_rfl) Ext.refl (fun _ _ _=>Ext.trans) ?_ ?_
 · intro K hK Y hY v w w' hR h
   simp only [List.mem_cons,List.not_mem_nil,or_false] at hK
   rcases hK with rfl | rfl | rfl | rfl | rfl | rfl | rfl | rfl <;> simp only [reduceCtorEq,Option.some.injEq,Sum.inr.injEq] at hY
 simp only [List.take_succ_cons,List.take_zero,List.drop_succ_cons,List.drop_zero]
 iterate 3
  refine Grow.g_det rfl ?_
  apply Exists.intro
  refine ⟨fun w2 hw hF=>?_,?_⟩
  · clear hF
    go_simp
    exact ⟨rfl,Ext.refl _⟩
  go_frame
 refine Grow.g_con rfl (fun w2 hw hF=>?_) ?_
 ·
  clear hF
  have c4:w2.cell? ⟨D.blk,4,none⟩=some (.int .i64 D.cap):=(HD.out.below ((Below.refl _ _).drew.trans hw)).cell 4 _ rfl
  go_simp
  all_goals exact Ext.refl _
 go_frame
 refine Grow.g_det rfl ?_
 apply Exists.intro
 refine ⟨fun w2 hw hF=>?_,?_⟩
 · clear hF
   go_simp
   exact ⟨rfl,Ext.refl _⟩
 go_frame
 refine Grow.g_con rfl (fun w2 hw hF=>?_) ?_
 · clear hF
   go_simp
   exact (size_any w2 (HD.out.below ((Below.refl _ _).drew.trans hw))).mono fun e w3 h=>⟨_,h.1,rfl,h.2⟩
 iterate 2
  go_frame
  refine Grow.g_det rfl ?_
  apply Exists.intro
  refine ⟨fun w2 hw hF=>?_,?_⟩
  · clear hF
    go_simp
    exact ⟨rfl,Ext.refl _⟩
 go_frame
 refine Grow.g_nil fun w3 hw3 hF=>?_
 clear hF
 refine wpList_nil ?_
 have HB:=Lib.hid ((Below.refl w.heap.size w).drew.trans hw3)
 clear hw3
 go_wp2_with fail
 go_ret
 rw [HR.out]
 exact ⟨rfl,HB.out⟩
structure RowC (g:Nat) (l:List UInt8) (c:Nat) (w:World):Prop where
 row:Row g l w
 le:l.length≤c
 there:∀ j,j < c→(w.cell? ⟨g,j,none⟩).isSome=true
 free:∀ j,j < c→w.frozen? ⟨g,j,none⟩=false
def put1 (l:List UInt8) (o:Nat) (v:UInt8):List UInt8:=if o < l.length then l.set o v else l++[v]
def overB (l:List UInt8) (o:Nat) (vs:List UInt8):List UInt8:=l.take o++vs++l.drop (o+vs.length)
theorem put1_over (l:List UInt8) (o:Nat) (v:UInt8) (h:o≤l.length):put1 l o v=overB l o [v]:=by
 unfold put1 overB
 split
 · rename_i hl
   rw [List.set_eq_take_append_cons_drop,if_pos hl]; simp
 · have:o=l.length:=by omega
   subst this; simp
theorem over_cons (l:List UInt8) (o:Nat) (v:UInt8) (vs:List UInt8) (h:o≤l.length):overB (overB l o [v]) (o+1) vs=overB l o (v :: vs):=by
 unfold overB
 have h1:(l.take o++[v]++l.drop (o+[v].length)).take (o+1)=l.take o++[v]:=by
  rw [List.take_append_of_le_length (by simp; omega)]
  rw [List.take_of_length_le (by simp; omega)]
 have h2:(l.take o++[v]++l.drop (o+[v].length)).drop (o+1+vs.length)=l.drop (o+(v :: vs).length):=by
  rw [List.drop_append,List.drop_of_length_le (by simp; omega)]
  simp only [List.length_append,List.length_take,List.length_cons,List.length_nil,List.drop_drop,List.nil_append]
  congr 1; omega
 rw [h1,h2]; simp
theorem over_nil (l:List UInt8) (o:Nat):overB l o []=l:=by unfold overB; simp
theorem over_length (l:List UInt8) (o:Nat) (vs:List UInt8) (h:o≤l.length):(overB l o vs).length=max l.length (o+vs.length):=by
 unfold overB; simp only [List.length_append,List.length_take,List.length_drop]; omega
theorem RowC.put {g:Nat} {l:List UInt8} {c:Nat} {w:World} (h:RowC g l c w) (o:Nat) (ho:o≤l.length) (hc:o < c) (v:UInt8):RowC g (put1 l o v) c (w.setCell ⟨g,o,none⟩ (.int .u8 (v.toNat:Int))):=by
 have hsome:∀ j,j < c→((w.setCell ⟨g,o,none⟩ (.int .u8 (v.toNat:Int))).cell? ⟨g,j,none⟩).isSome=true:=fun j hj=>by
  by_cases e:o=j
  · subst e
    obtain ⟨u,hu⟩:=Option.isSome_iff_exists.1 (h.there o hj)
    rw [World.cell?_setCell_same _ _ _ hu]; rfl
  · rw [World.cell?_setCell_other _ _ _ _ (fun q=>e (congrArg Addr.off q))]; exact h.there j hj
 have hfree:∀ j,j < c→(w.setCell ⟨g,o,none⟩ (.int .u8 (v.toNat:Int))).frozen? ⟨g,j,none⟩=false:=fun j hj=>by rw [World.frozen?_setCell]; exact h.free j hj
 unfold put1
 split
 · rename_i hl
   exact ⟨h.row.set o hl v,by simpa using h.le,hsome,hfree⟩
 ·
  have he:o=l.length:=by omega
  subst he
  refine ⟨⟨by simpa using h.row.lt,fun j hj=>?_,fun j hj=>?_⟩,by simp; omega,hsome,hfree⟩
  ·
   by_cases e:j < l.length
   · rw [World.cell?_setCell_other _ _ _ _ (fun q=>by have:=congrArg Addr.off q; simp at this; omega),List.getElem_append_left e]; exact h.row.cell j e
   · have hje:j=l.length:=by simp at hj; omega
     subst hje
     obtain ⟨u,hu⟩:=Option.isSome_iff_exists.1 (h.there _ hc)
     rw [World.cell?_setCell_same _ _ _ hu]; simp
  · rw [World.frozen?_setCell]; exact h.free j (by simp at hj; omega)
theorem RowC.puts {g c:Nat}:∀ (vs:List UInt8) (l:List UInt8) (o:Nat) (w:World),RowC g l c w→o≤l.length→o+vs.length≤c →
 RowC g (overB l o vs) c (w.setCells g o (vs.map fun x=>Value.int .u8 (x.toNat:Int)))∧Mod (fun k=>k=g) w (w.setCells g o (vs.map fun x=>Value.int .u8 (x.toNat:Int)))
 | [],l,o,w,h,_,_=>by rw [over_nil]; exact ⟨h,Mod.refl _ _⟩
 | v :: vs,l,o,w,h,ho,hc=>by
   simp only [List.length_cons] at hc
   have h1:=h.put o ho (by omega) v
   rw [put1_over l o v ho] at h1
   obtain ⟨h2,h3⟩:=RowC.puts vs _ (o+1) _ h1 (by rw [over_length _ _ _ ho]; simp only [List.length_cons,List.length_nil]; omega) (by omega)
   rw [over_cons l o v vs ho] at h2
   exact ⟨h2,(mod_set w g o _).trans h3⟩
theorem conv_bytes {P:Program} (w:World) (src dst e:TypeId) (l:List UInt8) (hs:P.underlying src=some .string) (hd:P.underlying dst=some (.slice e)) (he:P.underlying e=some (.int .u8)) :
 ∃ c w',(convert src dst (.string (S l))).run P w=.ok (.slice (some ⟨w.heap.size,0,none⟩) l.length c) w'∧Below w.heap.size w w'∧RowC w.heap.size l c w':=by
 have hsz:(S l).size=l.length:=S_size l
 have hC:(Lib.bytesCells w e (S l)).size=grownCap w (S l).size 0 e:=by
  have:=grownCap_ge w (S l).size 0 e
  unfold Lib.bytesCells; rw [Array.size_append,Array.size_map,Array.size_replicate]
  have h2:(S l).data.size=(S l).size:=rfl
  omega
 have hge:=grownCap_ge w (S l).size 0 e
 have hcell:∀ j,j < grownCap w (S l).size 0 e→((Lib.bytesWorld w e (S l)).cell? ⟨w.heap.size,j,none⟩).isSome=true:=fun j hj=>by
  unfold World.cell?
  rw [show (Lib.bytesWorld w e (S l)).heap[(⟨w.heap.size,j,none⟩:Addr).block]?=_ from Lib.bytesWorld_at_new w e (S l)]
  simp [hC,hj]
 have hfree:∀ j,j < grownCap w (S l).size 0 e→(Lib.bytesWorld w e (S l)).frozen? ⟨w.heap.size,j,none⟩=false:=fun j hj=>by
  unfold World.frozen?
  rw [show (Lib.bytesWorld w e (S l)).heap[(⟨w.heap.size,j,none⟩:Addr).block]?=_ from Lib.bytesWorld_at_new w e (S l)]
  simp [hC]; omega
 refine ⟨grownCap w (S l).size 0 e,Lib.bytesWorld w e (S l),by rw [Lib.run_convert_string_bytes w src dst e (S l) hs hd he,hsz],⟨?_,?_,?_,?_,?_⟩,⟨⟨by rw [Lib.bytesWorld_size]; omega,fun j hj=>?_,fun j hj=>hfree j (by omega)⟩,by omega,hcell,hfree⟩⟩
 iterate 3
  · simp [Lib.bytesWorld,World.freeze,World.alloc,World.drew,-World.alloc_eq,-World.drew_eq]
 · rw [Lib.bytesWorld_size]; omega
 · intro k hk; exact Lib.bytesWorld_at_old w e (S l) k hk
 · rw [Lib.bytesWorld_cell w e (S l) j (by omega)]
   have:(S l).data.toList=l:=by simp [S]
   rw [this]; simp [List.getD,hj]
theorem append_zeros {P:Program} (w:World) (t tn ty e:TypeId) (i:TypeInfo) (ht:P.underlying t=some (.slice e)) (htn:P.underlying tn=some (.int .i64)) (hi:P.info? e=some i) (hz:i.zero=some (.int .u8 0)) (h1:i.size=1) (hb:i.bytes=1)
 {g:Nat} {l:List UInt8} {c:Nat} (h:RowC g l c w) (k:Nat) (hk:0 < k) (hlim:l.length+k≤70368744177664) :
 ∃ g' c' w',(Builtin.append_ #[t,tn] ty #[.slice (some ⟨g,0,none⟩) l.length c,.int .i64 (k:Int)]).run P w=.ok (.slice (some ⟨g',0,none⟩) (l.length+k) c') w'∧RowC g' (l++List.replicate k 0) c' w'∧Mod (fun b=>b=g) w w'∧(g'=g∨w.heap.size≤g'):=by
 by_cases hroom:l.length+k≤c
 ·
  obtain ⟨hr,hm⟩:=h.puts (List.replicate k 0) l l.length w (Nat.le_refl _) (by simpa using hroom)
  have hov:overB l l.length (List.replicate k 0)=l++List.replicate k 0:=by unfold overB; simp
  rw [hov] at hr
  have hrep:(List.replicate k (0:UInt8)).map (fun x=>Value.int .u8 (x.toNat:Int))=List.replicate k (.int .u8 0):=by simp
  rw [hrep] at hr hm
  refine ⟨g,c,_,?_,hr,hm,.inl rfl⟩
  have hw:IntKind.i64.wrap (k:Int)=k:=by rw [IntKind.wrap_i64]; omega
  have hneg:¬ ((k:Int) < 0):=by omega
  have h48:¬ (281474976710656 < (k:Int)):=by omega
  have hk0:k≠0:=by omega
  have hst:=run_storeCells_cells (P:=P) g l.length (List.replicate k (.int .u8 0)) 0 w (fun j hj=>h.there _ (by simp at hj; omega)) (fun j hj=>h.free _ (by simp at hj; omega)) (fun v hv=>by rw [List.eq_of_mem_replicate hv]; rfl)
  simp only [Nat.add_zero] at hst
  have hzc:Builtin.zeroCells #[.int .u8 0] k=(List.replicate k (Value.int .u8 0)).toArray:=by
   apply Array.ext'
   simp only [Builtin.zeroCells,Array.toList_map,Array.toList_range]
   apply List.ext_getElem?
   intro j
   simp only [List.getElem?_map,List.getElem?_replicate]
   by_cases hj:j < k
   · simp [hj,Nat.mod_one]
   · simp [hj]
  have hcl:(Value.int .u8 0).cells=#[.int .u8 0]:=rfl
  have hadd:(⟨g,0,none⟩:Addr).add l.length=⟨g,l.length,none⟩:=by unfold Addr.add; split <;> simp_all
  simp [Builtin.append_,run_underlying ht,run_underlying htn,sizeOf,typeInfo,zeroValue,hi,hz,asInt,asIntOf,hw,hneg,h1,hb,h48,hk0,hroom,Result.andThen,hcl,hzc,hadd,hst]
 ·
  have hlim2:l.length+k≤maxLen:=by unfold maxLen; omega
  have hcl:(Value.int .u8 0).cells=#[.int .u8 0]:=rfl
  have hloads:∀ (j:Nat) (u:Value),(l.map fun x=>Value.int .u8 (x.toNat:Int))[j]?=some u→w.drew.cell? ((⟨g,0,none⟩:Addr).add j)=some u:=by
   intro j u hu
   rw [List.getElem?_map] at hu
   have hj:j < l.length:=by
    rcases Nat.lt_or_ge j l.length with h | h
    · exact h
    · rw [List.getElem?_eq_none h] at hu; cases hu
   rw [List.getElem?_eq_getElem hj] at hu
   have hadd:(⟨g,0,none⟩:Addr).add j=⟨g,j,none⟩:=by unfold Addr.add; split <;> simp_all
   rw [hadd]
   have:=h.row.cell j hj
   cases hu; exact this
  have hold:(Builtin.firstCells i.size l.length (.slice (some ⟨g,0,none⟩) l.length c)).run P w.drew=.ok (l.map fun x=>Value.int .u8 (x.toNat:Int)).toArray w.drew:=by
   have:=run_loadCells_list (P:=P) w.drew ⟨g,0,none⟩ (l.map fun x=>Value.int .u8 (x.toNat:Int)) hloads
   rw [List.length_map] at this
   simp only [Builtin.firstCells,h1,Nat.mul_one]
   exact this
  have hfit:Builtin.nextslicecap (l.length+k) c * i.bytes≤281474976710656:=growslice_fits (by omega) (by rw [hb]; omega)
  have hrun:=Lib.run_append_grow_zeros (P:=P) w t tn ty e i (.int .u8 0) .i64 .i64 ht htn hi hz (some ⟨g,0,none⟩) l.length c _ hold k hk (by omega) (by omega) (by omega) (by rw [hb]; omega) hfit
  have hge:=grownCap_ge w (l.length+k) c e
  rw [hcl] at hrun
  have hzs:∀ n,Builtin.zeroCells #[.int .u8 0] n=Array.replicate n (Value.int .u8 0):=by
   intro n
   apply Array.ext'
   simp only [Builtin.zeroCells,Array.toList_map,Array.toList_range,Array.toList_replicate]
   apply List.ext_getElem?
   intro j
   simp only [List.getElem?_map,List.getElem?_replicate]
   by_cases hj:j < n
   · simp [hj,Nat.mod_one]
   · simp [hj]
  rw [hzs,hzs] at hrun
  have hAs:((l.map fun x=>Value.int .u8 (x.toNat:Int)).toArray++Array.replicate k (Value.int .u8 0)++Array.replicate (grownCap w (l.length+k) c e - (l.length+k)) (Value.int .u8 0)).size=grownCap w (l.length+k) c e:=by simp; omega
  have hAj:∀ (j:Nat) (hj:j < (l++List.replicate k 0).length),((l.map fun x=>Value.int .u8 (x.toNat:Int)).toArray++Array.replicate k (Value.int .u8 0)++Array.replicate (grownCap w (l.length+k) c e - (l.length+k)) (Value.int .u8 0))[j]?=some (.int .u8 ((l++List.replicate k 0)[j].toNat:Int)):=by
   intro j hj
   have hj2:=hj
   simp only [List.length_append,List.length_replicate] at hj2
   by_cases hl:j < l.length
   · rw [Array.getElem?_append_left (by simp; omega),Array.getElem?_append_left (by simp; omega),List.getElem_append_left hl]
     simp [hl]
   · rw [Array.getElem?_append_left (by simp; omega),Array.getElem?_append_right (by simp; omega),List.getElem_append_right (by omega)]
     simp only [List.size_toArray,List.length_map,List.getElem_replicate,Array.getElem?_replicate]
     rw [if_pos (by omega)]; rfl
  generalize (l.map fun x=>Value.int .u8 (x.toNat:Int)).toArray++Array.replicate k (Value.int .u8 0)++Array.replicate (grownCap w (l.length+k) c e - (l.length+k)) (Value.int .u8 0)=A at *
  refine ⟨_,_,_,hrun,?_,⟨rfl,rfl,rfl,by simp,fun b hb _=>(by first | exact heap_alloc_old w.drew _ hb | exact heap_alloc_old w.drew _ _ hb)⟩,.inr (Nat.le_refl _)⟩
  have hat:(w.drew.alloc (.cells A e)).heap[w.heap.size]?=some (.cells A e):=heap_alloc_new w.drew _
  have hcells:∀ j,(w.drew.alloc (.cells A e)).cell? ⟨w.heap.size,j,none⟩=A[j]?:=fun j=>by
   unfold World.cell?
   rw [show (w.drew.alloc (.cells A e)).heap[(⟨w.heap.size,j,none⟩:Addr).block]?=_ from hat]; rfl
  have hfree:∀ j,(w.drew.alloc (.cells A e)).frozen? ⟨w.heap.size,j,none⟩=false:=fun j=>by
   unfold World.frozen?
   rw [show (w.drew.alloc (.cells A e)).heap[(⟨w.heap.size,j,none⟩:Addr).block]?=_ from hat]
   simp
  refine ⟨⟨by simp,fun j hj=>by rw [hcells]; exact hAj j hj,fun j _=>hfree j⟩,by simp; omega,fun j hj=>?_,fun j _=>hfree j⟩
  rw [hcells,Array.getElem?_eq_getElem (by omega)]; rfl
def laidL (s:List UInt8) (o:Nat) (t:List UInt8):List UInt8:=if t=[] then s else overB (s++List.replicate (o+t.length - s.length) 0) o t
theorem copy_over {P:Program} (dT sT ty e:TypeId) (hu:P.underlying dT=some (.slice e)) (hz:∀ w,(Go.sizeOf e).run P w=.ok 1 w) {g:Nat} {l:List UInt8} {c:Nat} {w:World} (h:RowC g l c w) (o:Nat) (t:List UInt8) (ho:o≤l.length) (hc:o+t.length≤c) (dl dc:Nat) (hdl:t.length≤dl) :
 (Builtin.copy_ #[dT,sT] ty #[.slice (some ⟨g,o,none⟩) dl dc,.string (S t)]).run P w=.ok (goInt (S t).size) (w.setCells g o (t.map fun x=>Value.int .u8 (x.toNat:Int))):=by
 have hl:(S t).data.toList=t:=by simp [S]
 have hs:(S t).size=t.length:=S_size t
 have:=Go.run_copy_string (P:=P) w dT sT ty e g o dl dc (S t) hu hz (by omega) (fun j hj=>h.there _ (by omega)) (fun j hj=>h.free _ (by omega))
 rw [hl] at this
 exact this
theorem S_toList (l:List UInt8):(S l).toList=l:=by rw [ByteArray.toList_eq,S_list]
theorem laid_any (s:List UInt8) (o:Nat) (t:List UInt8) (hs:s.length≤1099511627776) (ho:o≤1099511627776) (ht:t.length≤1099511627776) (w:World) :
 Calls Tryz.prog 186 #[.string (S s),.int .i64 (o:Int),.string (S t)] w fun e w'=>e=.returned (.string (S (laidL s o t)))∧Below w.heap.size w w':=by
 have hsz:=S_size
 have htl:=S_toList
 by_cases h0:t=[]
 ·
  subst h0
  have hl:Hid (laidL s o []=s):=if_pos rfl
  go_enter Tryz.func186,Tryz.ntmps186
  go_wp2_with fail
  go_ret
  rw [hl.out]
  exact ⟨rfl,Below.refl _ _⟩
 have HL:Hid (laidL s o t=overB (s++List.replicate (o+t.length - s.length) 0) o t):=if_neg h0
 have hte:t.isEmpty=false:=by cases t with
  | nil=>exact absurd rfl h0
  | cons _ _=>rfl
 have htp:0 < t.length:=List.length_pos_iff.2 h0
 obtain ⟨c,w1,hconv,hb1,hr1⟩:=conv_bytes (P:=Tryz.prog) w 9 218 5 s Tryz.underlying9 Tryz.underlying218 Tryz.underlying5
 have HR1:=Lib.hid hr1
 have HB1:=Lib.hid hb1
 clear hr1 hb1 h0
 go_enter Tryz.func186,Tryz.ntmps186
 go_upto_region 5 with fail
 clear hconv
 generalize hgw:w.heap.size=g at *
 have HGW:Hid (w.heap.size=g):=hgw
 clear hgw
 obtain ⟨i0,hi0,hz0,hz1,hz2⟩:∃ i,Tryz.prog.info? 5=some i∧i.zero=some (.int .u8 0)∧i.size=1∧i.bytes=1:=by
  have:=(show (Tryz.prog.info? 5).map (fun i=>(i.zero,i.size,i.bytes))=some (some (.int .u8 0),1,1) by kernel_rfl)
  cases hh:Tryz.prog.info? 5 with
  | none=>rw [hh] at this; cases this
  | some i=>rw [hh] at this; have h2:=Option.some.inj this; exact ⟨i,rfl,congrArg (·.1) h2,congrArg (·.2.1) h2,congrArg (·.2.2) h2⟩
 have HSZ:Hid (∀ w,(Go.sizeOf 5).run Tryz.prog w=.ok 1 w):=fun w=>by simp [sizeOf,typeInfo,hi0,hz1]
 by_cases hgr:s.length < o+t.length
 ·
  have hkk:(o:Int)+(t.length:Int) - (s.length:Int)=((o+t.length - s.length:Nat):Int):=by omega
  obtain ⟨g2,c2,w2,hap,hr2,hm2,hg2⟩:=append_zeros (P:=Tryz.prog) w1 218 3 218 5 i0 Tryz.underlying218 Tryz.underlying3 hi0 hz0 hz1 hz2 HR1.out (o+t.length - s.length) (by omega) (by omega)
  rw [hkk]
  have hln:s.length+(o+t.length - s.length)=o+t.length:=by omega
  rw [hln] at hap
  have HAP:=Lib.hid hap
  have HR2:=Lib.hid hr2
  have HM2:=Lib.hid hm2
  have HG2:=Lib.hid hg2
  clear hap hr2 hm2 hg2 hkk hln hi0 hz0 hz1 hz2
  have hk0:0 < o+t.length - s.length:=by omega
  have hco:¬ c2=o:=by have:=HR2.out.le; simp only [List.length_append,List.length_replicate] at this; omega
  have hlen:(s++List.replicate (o+t.length - s.length) (0:UInt8)).length=o+t.length:=by simp; omega
  have hcp:=copy_over (P:=Tryz.prog) 218 9 3 5 Tryz.underlying218 HSZ.out HR2.out o t (by omega) (by have:=HR2.out.le; omega) t.length (c2 - o) (Nat.le_refl _)
  obtain ⟨hr3,hm3⟩:=HR2.out.puts t _ o _ (by omega) (by have:=HR2.out.le; omega)
  have HR3:=Lib.hid hr3
  have HM3:=Lib.hid hm3
  have HCP:=Lib.hid hcp
  clear hr3 hm3 hcp
  generalize o+t.length - s.length=k at *
  generalize hw3:w2.setCells g2 o (t.map fun x=>Value.int .u8 (x.toNat:Int))=w3 at *
  have hcv:(convert 218 9 (.slice (some ⟨g2,0,none⟩) (o+t.length) c2)).run Tryz.prog w3=.ok (.string ⟨(overB (s++List.replicate k 0) o t).toArray⟩) w3 :=
   row_string HR3.out.row 218 5 9 Tryz.underlying218 Tryz.underlying5 Tryz.underlying9 c2 (o+t.length) (by rw [over_length _ _ _ (by omega)]; omega)
  go_wp2_with (at_builtin; refine Lib.wpList_append_run _ rfl (.tmp 23) (.tmp 24) 218 3 rfl _ _ rfl rfl _ _ HAP.out ?_)
  rw [HCP.out]
  go_wp2_with fail
  go_ret
  rw [HL.out]
  have h2:=HM2.out.to_below g (by have:=HB1.out.size; have:=HR1.out.row.lt; omega) (fun k hk=>by omega)
  have h3:=HM3.out.to_below g (by have:=h2.size; have:=HR1.out.row.lt; omega) (fun k hk=>by have:=HG2.out; have:=HR1.out.row.lt; omega)
  rw [HGW.out]
  exact ⟨rfl,(HB1.out.trans h2).trans h3⟩
 ·
  have hk0:o+t.length - s.length=0:=by omega
  rw [hk0,List.replicate_zero,List.append_nil] at HL
  have hng:¬ (0 < (o:Int)+(t.length:Int) - (s.length:Int)):=by omega
  have hco:¬ c=o:=by have:=HR1.out.le; omega
  have hcp:=copy_over (P:=Tryz.prog) 218 9 3 5 Tryz.underlying218 HSZ.out HR1.out o t (by omega) (by have:=HR1.out.le; omega) (s.length - o) (c - o) (by omega)
  obtain ⟨hr3,hm3⟩:=HR1.out.puts t _ o _ (by omega) (by have:=HR1.out.le; omega)
  have HR3:=Lib.hid hr3
  have HM3:=Lib.hid hm3
  have HCP:=Lib.hid hcp
  clear hr3 hm3 hcp hi0 hz0 hz1 hz2
  generalize hw3:w1.setCells g o (t.map fun x=>Value.int .u8 (x.toNat:Int))=w3 at *
  have hcv:(convert 218 9 (.slice (some ⟨g,0,none⟩) s.length c)).run Tryz.prog w3=.ok (.string ⟨(overB s o t).toArray⟩) w3 :=
   row_string HR3.out.row 218 5 9 Tryz.underlying218 Tryz.underlying5 Tryz.underlying9 c s.length (by rw [over_length _ _ _ (by omega)]; omega)
  have hos:o≤s.length:=by omega
  go_wp2_with fail
  rw [HCP.out]
  go_wp2_with fail
  go_ret
  rw [HL.out]
  have h3:=HM3.out.to_below g (by have:=HR1.out.row.lt; omega) (fun k hk=>by omega)
  rw [HGW.out]
  exact ⟨rfl,HB1.out.trans h3⟩
theorem find_none {D:DiskD} {n:List UInt8} (h:D.find n=none):∀ p∈D.files,p.1≠n:=by
 unfold DiskD.find at h
 rw [Option.map_eq_none_iff,List.find?_eq_none] at h
 intro p hp e
 exact h p hp (by simp [e])
theorem find_some {D:DiskD} {n:List UInt8} {f:FileD} (h:D.find n=some f):(n,f)∈D.files:=by
 unfold DiskD.find at h
 cases hf:D.files.find? (fun p=>p.1 == n) with
 | none=>rw [hf] at h; cases h
 | some p =>
   rw [hf] at h
   have h1:=List.mem_of_find?_eq_some hf
   have h2:=List.find?_some hf
   have h3:p.2=f:=Option.some.inj h
   have h4:p.1=n:=by simpa using h2
   rw [← h3,← h4]; exact h1
theorem insert_file {base:Nat} {w:World} {D:DiskD} (h:DiskAt base w D) (n:List UInt8) (hn:D.find n=none) (b:Nat) (hb:w.heap[b]?=some (.cells #[.string (S []),.string (S [])] 87 (0,0))) (hfo:¬ D.foot b) (hba:base≤b) :
 ∃ w',(Instr.mapUpdate 75 (.map (some D.mB)) (.string (S n)) (.pointer (some ⟨b,0,none⟩))).run Tryz.prog w=.ok () w'∧DiskAt base w' { D with files:=D.files++[(n,⟨b,[],[]⟩)] }∧Mod (fun k=>k=D.mB) w w':=by
 obtain ⟨es,c,hm,hst,hmap⟩:=h.map
 have hu:=Tryz.underlying75
 have hd:=Tryz.underlying9
 have hks:∀ x∈es.toList,IsKey .string x.key:=fun x hx=>by
  obtain ⟨p,_,hk,_⟩:=entry_file hmap hx
  rw [hk]; trivial
 have hk:IsKey .string (.string (S n)):=trivial
 have hne:∀ x∈es.toList,x.key≠.string (S n):=fun x hx e=>by
  obtain ⟨p,hp,hk,_⟩:=entry_file hmap hx
  rw [hk] at e
  exact find_none hn p hp (S_inj (by cases e; rfl))
 rcases findNow_spec hk es.toList 0 hks with ⟨h1,h2⟩ | ⟨j,e,h1,h2,h3⟩
 ·
  have hlt:D.mB < w.heap.size:=(Array.getElem?_eq_some_iff.1 hm).1
  have hrun:(Instr.mapUpdate 75 (.map (some D.mB)) (.string (S n)) (.pointer (some ⟨b,0,none⟩))).run Tryz.prog w=.ok () { w with heap:=w.heap.setIfInBounds D.mB (.map (es.push ⟨.string (S n),.pointer (some ⟨b,0,none⟩),c⟩) (c+1)) }:=by
   simp [Instr.mapUpdate,run_underlying hu,Go.MapKept.run_getObj_map hm,Go.MapKept.run_checkKey hd hk,Go.MapKept.run_findKey hd h1,Go.MapKept.run_setObj_map _ hm,Result.andThen]
  have hmod:Mod (fun k=>k=D.mB) w { w with heap:=w.heap.setIfInBounds D.mB (.map (es.push ⟨.string (S n),.pointer (some ⟨b,0,none⟩),c⟩) (c+1)) }:=⟨rfl,rfl,rfl,by simp,fun k _ hk=>by
   show (w.heap.setIfInBounds D.mB _)[k]?=_
   exact Array.getElem?_setIfInBounds_ne (fun e=>hk e.symm)⟩
  refine ⟨_,hrun,?_,hmod⟩
  have key:∀ k,k < w.heap.size→k≠D.mB→(w.heap.setIfInBounds D.mB (Obj.map (es.push ⟨.string (S n),.pointer (some ⟨b,0,none⟩),c⟩) (c+1)))[k]?=w.heap[k]?:=fun k _ hk=>Array.getElem?_setIfInBounds_ne (fun e=>hk e.symm)
  have hblt:b < w.heap.size:=(Array.getElem?_eq_some_iff.1 hb).1
  have hbm:b≠D.mB:=fun e=>hfo (.inr (.inl e))
  have hbd:b≠D.blk:=fun e=>hfo (.inl e)
  have hbf:∀ p∈D.files,b≠p.2.blk:=fun p hp e=>hfo (.inr (.inr (.inl ⟨p,hp,e⟩)))
  have hbw:∀ k,D.wv.ownBlock=some k→k≠b:=fun k hk e=>hfo (.inr (.inr (.inr (e ▸ hk))))
  refine ⟨?_,⟨es.push ⟨.string (S n),.pointer (some ⟨b,0,none⟩),c⟩,c+1,?_,stamped_push hst h2,?_⟩,fun p hp=>?_,?_,?_,?_,?_,?_,h.ints,?_,fun x hx=>by obtain ⟨p,hp,e⟩:=h.waitf x hx; exact ⟨p,List.mem_append_left _ hp,e⟩⟩
  · exact (key _ (h.lt (.inl rfl)) h.apart.1).trans h.head
  · show (w.heap.setIfInBounds D.mB _)[D.mB]?=_
    simp [hlt]
  · rw [Array.toList_push,List.map_append,hmap,List.map_append]; rfl
  · rcases List.mem_append.1 hp with hp | hp
    · exact (key _ (h.lt (.inr (.inr (.inl ⟨p,hp,rfl⟩)))) (h.apart.2.1 p hp).2).trans (h.file p hp)
    · rw [List.mem_singleton] at hp; subst hp
      exact (key b hblt hbm).trans hb
  ·
   refine ⟨h.row.1,?_⟩
   rcases h.row.2 with h0 | ⟨g,cap,cur,e,hbs,hg,r⟩
   · exact .inl h0
   · have hown:D.wv.ownBlock=some g:=by rw [e]; rfl
     exact .inr ⟨g,cap,cur,e,hbs,(key g (h.lt (.inr (.inr (.inr hown)))) (h.apart.2.2 g hown).2.1).trans hg,r⟩
  ·
   show ((D.files++[(n,(⟨b,[],[]⟩:FileD))]).map (·.1)).Nodup
   rw [List.map_append,List.nodup_append]
   refine ⟨h.names,by simp,fun a ha c hc e=>?_⟩
   simp only [List.map_cons,List.map_nil,List.mem_singleton] at hc
   subst hc; subst e
   obtain ⟨p,hp,hpe⟩:=List.mem_map.1 ha
   exact find_none hn p hp hpe
  ·
   show ((D.files++[(n,(⟨b,[],[]⟩:FileD))]).map (·.2.blk)).Nodup
   rw [List.map_append,List.nodup_append]
   refine ⟨h.blocks,by simp,fun a ha c hc e=>?_⟩
   simp only [List.map_cons,List.map_nil,List.mem_singleton] at hc
   subst hc; subst e
   obtain ⟨p,hp,hpe⟩:=List.mem_map.1 ha
   exact hbf p hp hpe.symm
  ·
   refine ⟨h.apart.1,fun p hp=>?_,fun k hk=>⟨(h.apart.2.2 k hk).1,(h.apart.2.2 k hk).2.1,fun p hp=>?_⟩⟩
   · rcases List.mem_append.1 hp with hp | hp
     · exact h.apart.2.1 p hp
     · rw [List.mem_singleton] at hp; subst hp; exact ⟨hbd,hbm⟩
   · rcases List.mem_append.1 hp with hp | hp
     · exact (h.apart.2.2 k hk).2.2 p hp
     · rw [List.mem_singleton] at hp; subst hp; exact hbw k hk
  · refine ⟨h.above.1,h.above.2.1,fun p hp=>?_⟩
    rcases List.mem_append.1 hp with hp | hp
    · exact h.above.2.2 p hp
    · rw [List.mem_singleton] at hp; subst hp; exact hba
  · have:sizeL (D.files++[(n,(⟨b,[],[]⟩:FileD))])=sizeL D.files:=by unfold sizeL; simp
    show ((sizeL (D.files++[(n,(⟨b,[],[]⟩:FileD))]):Nat):Int)≤D.cap
    rw [this]; exact h.fits
 · exact absurd h3 (hne e (List.mem_of_getElem? h2))
def DiskD.createE (D:DiskD) (n:List UInt8):Int:=if D.down then 8 else if (D.find n).isSome then 10 else D.done
def DiskD.create (D:DiskD) (n:List UInt8) (b:Nat):DiskD:=if D.down=true∨(D.find n).isSome=true then D else if D.left=0 then D.burn else { D.burn with files:=D.files++[(n,⟨b,[],[]⟩)] }
theorem bars_nil (D:DiskD):D.bars []=if D.down then 8 else 0:=by unfold DiskD.bars; rfl
theorem burn_foot (D:DiskD):D.burn.foot=D.foot∧D.burn.blk=D.blk∧D.burn.mB=D.mB∧D.burn.files=D.files∧D.burn.wv=D.wv∧D.burn.waits=D.waits∧D.burn.cap=D.cap:=by
 unfold DiskD.burn
 split
 · exact ⟨rfl,rfl,rfl,rfl,rfl,rfl,rfl⟩
 · split
   iterate 2
    · exact ⟨rfl,rfl,rfl,rfl,rfl,rfl,rfl⟩
theorem burn_find (D:DiskD) (n:List UInt8):D.burn.find n=D.find n:=by unfold DiskD.find; rw [(burn_foot D).2.2.2.1]
theorem Mod.below_foot {D:DiskD} {w w':World} (h:Mod (fun k=>k=D.blk) w w'):Mod D.foot w w':=h.mono (fun k _ hk=>.inl hk)
theorem create_any {base:Nat} {D:DiskD} (n:List UInt8) (w:World) (h:DiskAt base w D) (hbase:base≤w.heap.size) :
 Calls Tryz.prog 125 #[.pointer (some ⟨D.blk,0,none⟩),.string (S n)] w fun e w'=>∃ b,w.heap.size≤b∧e=.returned (.int .i64 (D.createE n))∧DiskAt base w' (D.create n b)∧Mod D.foot w w':=by
 have HBA:=Lib.hid (bars_any none 0 [] (by simp) w h (fun i hi=>absurd hi (Nat.not_lt_zero _)))
 rw [bars_nil] at HBA
 have HE:Hid (D.createE n=if D.down then 8 else if (D.find n).isSome then 10 else D.done):=rfl
 have HC:Hid (∀ b,D.create n b=if D.down=true∨(D.find n).isSome=true then D else if D.left=0 then D.burn else { D.burn with files:=D.files++[(n,⟨b,[],[]⟩)] }):=fun _=>rfl
 have c2:w.cell? ⟨D.blk,2,none⟩=some (.map (some D.mB)):=h.cell 2 _ rfl
 have hlk:=lookup_file h n
 have HDN:=Lib.hid (done_any w h)
 have HD:=Lib.hid h
 clear h
 go_enter Tryz.func125,Tryz.ntmps125
 go_wp2_with fail
 refine HBA.out.mono ?_
 rintro e w1 ⟨rfl,rfl⟩
 clear HBA
 cases hdn:D.down with
 | true =>
   rw [hdn] at HE HC
   go_wp2_with fail
   go_ret
   exact ⟨w1.heap.size,Nat.le_refl _,by rw [HE.out]; rfl,by rw [HC.out,if_pos (by simp)]; exact HD.out,Mod.refl _ _⟩
 | false =>
   rw [hdn] at HE HC
   clear hdn
   cases hf:D.find n with
   | some f =>
     rw [hf] at HE HC hlk
     unfold fileV at hlk
     simp only [Option.map_some] at hlk
     clear hf
     go_wp2_with fail
     go_ret
     exact ⟨w1.heap.size,Nat.le_refl _,by rw [HE.out]; rfl,by rw [HC.out,if_pos (by simp)]; exact HD.out,Mod.refl _ _⟩
   | none =>
     have HF:=Lib.hid hf
     rw [hf] at HE HC hlk
     unfold fileV at hlk
     simp only [Option.map_none] at hlk
     clear hf
     go_wp2_with fail
     refine HDN.out.mono ?_
     rintro e w2 ⟨rfl,hd2,hm2⟩
     have HD2:=Lib.hid hd2
     have HM2:=Lib.hid hm2
     clear hd2 hm2 HDN c2 hlk
     by_cases h0:D.left=0
     · have hdone:D.done=8:=if_pos h0
       have HDO:=Lib.hid hdone
       rw [hdone]
       clear hdone
       go_wp2_with fail
       go_ret
       exact ⟨w1.heap.size,Nat.le_refl _,by rw [HE.out]; simp [HDO.out],by rw [HC.out,if_neg (by simp),if_pos h0]; exact HD2.out,Mod.below_foot HM2.out⟩
     ·
      have hdone:D.done=0:=if_neg h0
      have HDO:=Lib.hid hdone
      rw [hdone]
      clear hdone
      have c2:w2.cell? ⟨D.blk,2,none⟩=some (.map (some D.mB)):=by
       have:w2.cell? ⟨D.burn.blk,2,none⟩=some (.map (some D.burn.mB)):=HD2.out.cell 2 _ rfl
       rw [(burn_foot D).2.1,(burn_foot D).2.2.1] at this; exact this
      have hbl:Below w2.heap.size w2 (w2.alloc (.cells #[.string ⟨#[]⟩,.string ⟨#[]⟩] 87)):=(Below.refl _ _).alloc (Nat.le_refl _) _
      have hle:base≤w2.heap.size:=Nat.le_trans hbase HM2.out.size
      obtain ⟨w4,hins,hd4,hm4⟩:=insert_file (HD2.out.below hbl) n (by rw [burn_find]; exact HF.out) w2.heap.size (heap_alloc_new _ _) (fun hf=>by have:=HD2.out.lt hf; omega) hle
      rw [(burn_foot D).2.2.1] at hins hm4
      rw [(burn_foot D).2.2.2.1] at hd4
      have HD4:=Lib.hid hd4
      have HM4:Hid (Mod D.foot w1 w4):=((Mod.below_foot HM2.out).trans (Mod.of_below hbl)).trans (hm4.mono (fun k _ hk=>.inr (.inl hk)))
      have HSZ:Hid (w1.heap.size≤w2.heap.size):=HM2.out.size
      clear hd4 hm4 hbl hle
      go_wp2_with fail
      go_ret
      exact ⟨w2.heap.size,HSZ.out,by rw [HE.out]; simp [HDO.out],by rw [HC.out,if_neg (by simp),if_neg h0]; exact HD4.out,HM4.out⟩
def nowF (f:Option FileD):List UInt8:=match f with | some f=>f.now | none=>[]
def DiskD.bytes (D:DiskD) (n:List UInt8):List UInt8:=nowF (D.find n)
def DiskD.allT (D:DiskD) (n:List UInt8):List UInt8:=if D.bars [n]=0 then D.bytes n else []
theorem bars_one (D:DiskD) (n:List UInt8):D.bars [n]=if D.down then 8 else if (D.find n).isSome then 0 else 9:=by unfold DiskD.bars; simp
theorem DiskAt.now {base:Nat} {w:World} {D:DiskD} (h:DiskAt base w D) {n:List UInt8} {f:FileD} (hf:D.find n=some f):w.cell? ⟨f.blk,1,none⟩=some (.string (S f.now)):=by
 have:=h.file _ (find_some hf)
 unfold World.cell?; rw [show w.heap[(⟨f.blk,1,none⟩:Addr).block]?=_ from this]; rfl
theorem row_one (w:World) (n:List UInt8) (ty:TypeId):Row1 (w.alloc (.cells #[.string (S n)] ty)) (some ⟨w.heap.size,0,none⟩) ([n].map fun x=>.string (S x)):=by
 intro i hi
 have:i=0:=by simpa using hi
 subst this
 exact ⟨_,_,rfl,by rw [World.cell?_alloc_new]; rfl⟩
theorem all_any {base:Nat} {D:DiskD} (n:List UInt8) (w:World) (h:DiskAt base w D) :
 Calls Tryz.prog 177 #[.pointer (some ⟨D.blk,0,none⟩),.string (S n)] w fun e w'=>e=.returned (.tuple #[.string (S (D.allT n)),.int .i64 (D.bars [n])])∧Below w.heap.size w w':=by
 have HB:Hid (Below w.heap.size w (w.alloc (.cells #[.string (S n)] 9))):=(Below.refl _ _).alloc (Nat.le_refl _) _
 have hd:=h.below HB.out
 have HBA:=Lib.hid (bars_any (some ⟨w.heap.size,0,none⟩) 1 [n] (by simp) _ hd (row_one w n _))
 have hlk:=lookup_file hd n
 have c2:(w.alloc (.cells #[.string (S n)] 9)).cell? ⟨D.blk,2,none⟩=some (.map (some D.mB)):=hd.cell 2 _ rfl
 have HD:=Lib.hid hd
 have HT:Hid (D.allT n=if D.bars [n]=0 then D.bytes n else []):=rfl
 have HY:Hid (D.bytes n=nowF (D.find n)):=rfl
 rw [bars_one] at HBA HT
 have HO:=Lib.hid (bars_one D n)
 clear h hd
 go_enter Tryz.func177,Tryz.ntmps177
 go_wp2_with fail
 refine HBA.out.mono ?_
 rintro e w1 ⟨rfl,rfl⟩
 clear HBA
 cases hdn:D.down with
 | true =>
   rw [hdn] at HT HO
   go_wp2_with fail
   go_ret2
   rw [HT.out,HO.out]
   exact ⟨rfl,HB.out⟩
 | false =>
   rw [hdn] at HT HO
   clear hdn
   cases hf:D.find n with
   | none =>
     rw [hf] at HT HO
     go_wp2_with fail
     go_ret2
     rw [HT.out,HO.out]
     exact ⟨rfl,HB.out⟩
   | some f =>
     have hnow:=HD.out.now hf
     rw [hf] at HT HO hlk HY
     unfold fileV at hlk
     simp only [Option.map_some] at hlk
     clear hf
     go_wp2_with fail
     go_ret2
     rw [HT.out,HO.out,HY.out]
     exact ⟨rfl,HB.out⟩
def DiskD.readOk (D:DiskD) (nm:List UInt8) (o n:Int):Bool:=decide (0≤o) && decide (0≤n) && decide (o+n≤((D.bytes nm).length:Int))
def DiskD.readE (D:DiskD) (nm:List UInt8) (o n:Int):Int:=if D.bars [nm]=0 then (if D.readOk nm o n then 0 else 2) else D.bars [nm]
def DiskD.readT (D:DiskD) (nm:List UInt8) (o n:Int):List UInt8:=if D.bars [nm]=0∧D.readOk nm o n=true then ((D.bytes nm).drop o.toNat).take n.toNat else []
theorem sizeL_mem {l:List (List UInt8×FileD)} {p:List UInt8×FileD} (h:p∈l):p.2.now.length≤sizeL l:=by
 unfold sizeL
 induction l with
 | nil=>cases h
 | cons x l ih =>
   simp only [List.map_cons,List.sum_cons]
   rcases List.mem_cons.1 h with rfl | h
   · omega
   · have:=ih h; omega
theorem DiskAt.small {base:Nat} {w:World} {D:DiskD} (h:DiskAt base w D) (n:List UInt8):(D.bytes n).length≤16777216:=by
 unfold DiskD.bytes
 cases hf:D.find n with
 | none=>simp [nowF]
 | some f =>
   have h1:=sizeL_mem (find_some hf)
   have h2:=h.fits
   have h3:=h.ints.2.2.2
   have h4:D.size=sizeL D.files:=rfl
   show f.now.length≤_
   simp only at h1
   omega
theorem S_extract (l:List UInt8) (o n:Nat):(S l).extract o (o+n)=S ((l.drop o).take n):=by
 have h:((S l).extract o (o+n)).data.toList=(l.drop o).take n:=by simp [S,List.extract]
 have e:∀ a:ByteArray,a=S a.data.toList:=fun a=>by cases a; simp [S]
 rw [e ((S l).extract o (o+n)),h]
theorem read_any {base:Nat} {D:DiskD} (nm:List UInt8) (o n:Int) (ho : -9223372036854775808≤o∧o≤9223372036854775807) (hn : -9223372036854775808≤n∧n≤9223372036854775807) (w:World) (h:DiskAt base w D) :
 Calls Tryz.prog 138 #[.pointer (some ⟨D.blk,0,none⟩),.string (S nm),.int .i64 o,.int .i64 n] w fun e w'=>e=.returned (.tuple #[.string (S (D.readT nm o n)),.int .i64 (D.readE nm o n)])∧Below w.heap.size w w':=by
 have HA:=Lib.hid (all_any nm w h)
 have HE:Hid (D.readE nm o n=if D.bars [nm]=0 then (if D.readOk nm o n then 0 else 2) else D.bars [nm]):=rfl
 have HT:Hid (D.readT nm o n=if D.bars [nm]=0∧D.readOk nm o n=true then ((D.bytes nm).drop o.toNat).take n.toNat else []):=rfl
 have HO:Hid (D.readOk nm o n=(decide (0≤o) && decide (0≤n) && decide (o+n≤((D.bytes nm).length:Int)))):=rfl
 have HAT:Hid (D.allT nm=if D.bars [nm]=0 then D.bytes nm else []):=rfl
 have hsm:=h.small nm
 have hsz:=S_size
 have htl:=S_toList
 have hbb:D.bars [nm]=0∨D.bars [nm]=8∨D.bars [nm]=9:=by
  rw [bars_one]; split
  · exact .inr (.inl rfl)
  · split
    · exact .inl rfl
    · exact .inr (.inr rfl)
 clear h
 go_enter Tryz.func138,Tryz.ntmps138
 go_wp2_with fail
 refine HA.out.mono ?_
 rintro e w1 ⟨rfl,hb⟩
 have HB:=Lib.hid hb
 clear hb HA
 generalize D.bars [nm]=bz at *
 rcases hbb with rfl | rfl | rfl
 ·
  rw [if_pos rfl] at HAT HE
  rw [HAT.out]
  clear HAT
  generalize D.bytes nm=l at *
  generalize D.readOk nm o n=ok at *
  by_cases h1:o < 0
  ·
   have hok:ok=false:=by rw [HO.out,decide_eq_false (show ¬ 0≤o by omega)]; rfl
   subst hok
   have d1:decide (o < 0)=true:=decide_eq_true h1
   go_wp2_with fail
   go_ret2
   rw [HT.out,HE.out]
   exact ⟨rfl,HB.out⟩
  have d1:decide (o < 0)=false:=decide_eq_false h1
  by_cases h2:n < 0
  ·
   have hok:ok=false:=by rw [HO.out,decide_eq_false (show ¬ 0≤n by omega),Bool.and_false]; rfl
   subst hok
   have d2:decide (n < 0)=true:=decide_eq_true h2
   go_wp2_with fail
   go_ret2
   rw [HT.out,HE.out]
   exact ⟨rfl,HB.out⟩
  have d2:decide (n < 0)=false:=decide_eq_false h2
  by_cases h3:(l.length:Int) < o
  ·
   have hok:ok=false:=by rw [HO.out,decide_eq_false (show ¬ o+n≤(l.length:Int) by omega),Bool.and_false]
   subst hok
   have d3:decide ((l.length:Int) < o)=true:=decide_eq_true h3
   go_wp2_with fail
   go_ret2
   rw [HT.out,HE.out]
   exact ⟨rfl,HB.out⟩
  have d3:decide ((l.length:Int) < o)=false:=decide_eq_false h3
  by_cases h4:(l.length:Int) - o < n
  ·
   have hok:ok=false:=by rw [HO.out,decide_eq_false (show ¬ o+n≤(l.length:Int) by omega),Bool.and_false]
   subst hok
   have d4:decide ((l.length:Int) - o < n)=true:=decide_eq_true h4
   go_wp2_with fail
   go_ret2
   rw [HT.out,HE.out]
   exact ⟨rfl,HB.out⟩
  have d4:decide ((l.length:Int) - o < n)=false:=decide_eq_false h4
  have hok:ok=true:=by rw [HO.out,decide_eq_true (show 0≤o by omega),decide_eq_true (show 0≤n by omega),decide_eq_true (show o+n≤(l.length:Int) by omega)]; rfl
  subst hok
  obtain ⟨o,rfl⟩:=Int.eq_ofNat_of_zero_le (show 0≤o by omega)
  obtain ⟨n,rfl⟩:=Int.eq_ofNat_of_zero_le (show 0≤n by omega)
  rw [if_pos ⟨rfl,rfl⟩] at HT
  go_wp2_with fail
  go_ret2
  rw [HT.out,HE.out]
  refine ⟨?_,HB.out⟩
  show Ending.returned (.tuple #[.string ((S l).extract o (o+n)),.int .i64 0])=_
  rw [S_extract,Int.toNat_natCast,Int.toNat_natCast]; rfl
 iterate 2
  · go_wp2_with fail
    go_ret2
    rw [HT.out,HE.out]
    exact ⟨rfl,HB.out⟩
def setNow (l:List (List UInt8×FileD)) (n:List UInt8) (t:List UInt8):List (List UInt8×FileD):=l.map fun p=>if p.1=n then (p.1,{ p.2 with now:=t }) else p
theorem setNow_fst (l:List (List UInt8×FileD)) (n t:List UInt8):(setNow l n t).map (·.1)=l.map (·.1):=by
 unfold setNow; rw [List.map_map]; apply List.map_congr_left; intro p _; show (if p.1=n then _ else p).1=_; split <;> rfl
theorem setNow_blk (l:List (List UInt8×FileD)) (n t:List UInt8):(setNow l n t).map (·.2.blk)=l.map (·.2.blk):=by
 unfold setNow; rw [List.map_map]; apply List.map_congr_left; intro p _; show (if p.1=n then _ else p).2.blk=_; split <;> rfl
theorem setNow_ptr (l:List (List UInt8×FileD)) (n t:List UInt8):(setNow l n t).map (fun p=>(Value.string (S p.1),Value.pointer (some ⟨p.2.blk,0,none⟩)))=l.map (fun p=>(Value.string (S p.1),Value.pointer (some ⟨p.2.blk,0,none⟩))):=by
 unfold setNow; rw [List.map_map]; apply List.map_congr_left; intro p _; show ((Value.string (S (if p.1=n then _ else p).1),Value.pointer (some ⟨(if p.1=n then _ else p).2.blk,0,none⟩)):Value×Value)=_; split <;> rfl
theorem setNow_mem {l:List (List UInt8×FileD)} {n t:List UInt8} {q:List UInt8×FileD} (h:q∈setNow l n t):∃ p∈l,q.2.blk=p.2.blk∧q.1=p.1∧q.2.img=p.2.img∧(p.1=n→q.2.now=t)∧(p.1≠n→q=p):=by
 obtain ⟨p,hp,rfl⟩:=List.mem_map.1 h
 by_cases e:p.1=n
 · rw [if_pos e]; exact ⟨p,hp,rfl,rfl,rfl,fun _=>rfl,fun h=>absurd e h⟩
 · rw [if_neg e]; exact ⟨p,hp,rfl,rfl,rfl,fun h=>absurd h e,fun _=>rfl⟩
theorem setNow_has {l:List (List UInt8×FileD)} {n t:List UInt8} {p:List UInt8×FileD} (h:p∈l):∃ q∈setNow l n t,q.2.blk=p.2.blk :=
 ⟨_,List.mem_map.2 ⟨p,h,rfl⟩,by show (if p.1=n then _ else p).2.blk=_; split <;> rfl⟩
theorem sizeL_set:∀ (l:List (List UInt8×FileD)) (n t:List UInt8) (f:FileD),(l.map (·.1)).Nodup→(n,f)∈l→sizeL (setNow l n t)+f.now.length=sizeL l+t.length:=by
 intro l
 induction l with
 | nil=>intro n t f _ h; cases h
 | cons x l ih =>
   intro n t f hn hm
   simp only [List.map_cons,List.nodup_cons] at hn
   have hsz:∀ (y:List UInt8×FileD) (l:List (List UInt8×FileD)),sizeL (y :: l)=y.2.now.length+sizeL l:=fun y l=>by unfold sizeL; simp
   have hset:setNow (x :: l) n t=(if x.1=n then (x.1,{ x.2 with now:=t }) else x) :: setNow l n t:=rfl
   rw [hset,hsz,hsz]
   rcases List.mem_cons.1 hm with e | hm
   ·
    subst e
    rw [if_pos rfl]
    have hl:setNow l n t=l:=by
     unfold setNow
     conv=>rhs; rw [← List.map_id l]
     apply List.map_congr_left
     intro p hp
     rw [if_neg (fun e=>hn.1 (by rw [← e]; exact List.mem_map.2 ⟨p,hp,rfl⟩))]; rfl
    rw [hl]
    show t.length+_+_=_
    simp only
    omega
   · have hne:x.1≠n:=fun e=>hn.1 (by rw [e]; exact List.mem_map.2 ⟨_,hm,rfl⟩)
     rw [if_neg hne]
     have:=ih n t f hn.2 hm
     omega
theorem DiskAt.set_now {base:Nat} {w:World} {D:DiskD} (h:DiskAt base w D) {n:List UInt8} {f:FileD} (hf:(n,f)∈D.files) (t:List UInt8) (hfit:((sizeL (setNow D.files n t):Nat):Int)≤D.cap) :
 DiskAt base (w.setCell ⟨f.blk,1,none⟩ (.string (S t))) { D with files:=setNow D.files n t }∧Mod D.foot w (w.setCell ⟨f.blk,1,none⟩ (.string (S t))):=by
 have hm:Mod (fun k=>k=f.blk) w (w.setCell ⟨f.blk,1,none⟩ (.string (S t))):=mod_set _ _ _ _
 have hmf:Mod D.foot w (w.setCell ⟨f.blk,1,none⟩ (.string (S t))):=hm.mono (fun k _ hk=>.inr (.inr (.inl ⟨_,hf,hk⟩)))
 have key:∀ k,D.foot k→k≠f.blk→(w.setCell ⟨f.blk,1,none⟩ (.string (S t))).heap[k]?=w.heap[k]?:=fun k hk hne=>hm.block k (h.lt hk) hne
 have hself:(w.setCell ⟨f.blk,1,none⟩ (.string (S t))).heap[f.blk]?=some (.cells #[.string (S f.img),.string (S t)] 87 (0,0)):=heap_set1 (h.file _ hf) _ rfl
 have hap:=h.apart.2.1 _ hf
 obtain ⟨es,c,m1,m2,m3⟩:=h.map
 refine ⟨⟨(key _ (.inl rfl) (fun e=>hap.1 e.symm)).trans h.head,⟨es,c,(key _ (.inr (.inl rfl)) (fun e=>hap.2 e.symm)).trans m1,m2,by rw [m3]; exact (setNow_ptr _ _ _).symm⟩,fun q hq=>?_,?_,by show ((setNow D.files n t).map (·.1)).Nodup; rw [setNow_fst]; exact h.names,by show ((setNow D.files n t).map (·.2.blk)).Nodup; rw [setNow_blk]; exact h.blocks,⟨h.apart.1,fun q hq=>?_,fun k hk=>⟨(h.apart.2.2 k hk).1,(h.apart.2.2 k hk).2.1,fun q hq=>?_⟩⟩,⟨h.above.1,h.above.2.1,fun q hq=>?_⟩,h.ints,hfit,fun x hx=>by obtain ⟨p,hp,e⟩:=h.waitf x hx; rw [← e]; exact setNow_has hp⟩,hmf⟩
 ·
  obtain ⟨p,hp,hb,h1,h2,h3,h4⟩:=setNow_mem hq
  by_cases e:p.1=n
  ·
   have hpf:p=(n,f):=by
    have h5:=find_blk D.files h.blocks
    have:∀ (l:List (List UInt8×FileD)),(l.map (·.1)).Nodup→∀ a∈l,∀ b∈l,a.1=b.1→a=b:=by
     intro l
     induction l with
     | nil=>intro _ a ha; cases ha
     | cons x l ih =>
       intro hn a ha b hb hab
       simp only [List.map_cons,List.nodup_cons] at hn
       rcases List.mem_cons.1 ha with e1 | h1
       · rcases List.mem_cons.1 hb with e2 | h2
         · rw [e1,e2]
         · exact absurd (show x.1∈l.map (·.1) from List.mem_map.2 ⟨b,h2,by rw [← e1]; exact hab.symm⟩) hn.1
       · rcases List.mem_cons.1 hb with e2 | h2
         · exact absurd (show x.1∈l.map (·.1) from List.mem_map.2 ⟨a,h1,by rw [← e2]; exact hab⟩) hn.1
         · exact ih hn.2 a h1 b h2 hab
    exact this _ h.names p hp _ hf e
   have hq2:q.2.cells=#[.string (S f.img),.string (S t)]:=by
    show #[Value.string (S q.2.img),Value.string (S q.2.now)]=_
    rw [h2,h3 e,hpf]
   rw [hb,hq2,hpf]; exact hself
  ·
   rw [h4 e]
   have hne:p.2.blk≠f.blk:=fun e2=>by
    have a1:=find_blk D.files h.blocks p hp
    have a2:=find_blk D.files h.blocks _ hf
    simp only at a2
    rw [e2,a2] at a1
    have:(n,f)=p:=Option.some.inj a1
    exact e (by rw [← this])
   exact (key _ (.inr (.inr (.inl ⟨p,hp,rfl⟩))) hne).trans (h.file p hp)
 ·
  refine ⟨h.row.1,?_⟩
  rcases h.row.2 with h0 | ⟨g,cap,cur,e,hb,hg,r⟩
  · exact .inl h0
  · have hown:D.wv.ownBlock=some g:=by rw [e]; rfl
    exact .inr ⟨g,cap,cur,e,hb,(key g (.inr (.inr (.inr hown))) ((h.apart.2.2 g hown).2.2 _ hf)).trans hg,r⟩
 · obtain ⟨p,hp,hb,_⟩:=setNow_mem hq
   rw [hb]; exact h.apart.2.1 p hp
 · obtain ⟨p,hp,hb,_⟩:=setNow_mem hq
   rw [hb]; exact (h.apart.2.2 k hk).2.2 p hp
 · obtain ⟨p,hp,hb,_⟩:=setNow_mem hq
   rw [hb]; exact h.above.2.2 p hp
theorem DiskAt.set_waits {base:Nat} {w w1:World} {D:DiskD} (h:DiskAt base w D) (wv:Value) (ws:List WriteD) (hg:w.grownBy w1 D.wv.ownBlock)
 (hrow:w1.ownsRow base 281 3 wv ws.length (waitsL ws)) (hfr:∀ k,wv.ownBlock=some k→D.wv.ownBlock=some k∨w.heap.size≤k) (hwf:∀ x∈ws,∃ p∈D.files,p.2.blk=x.blk) :
 DiskAt base (w1.setCell ⟨D.blk,3,none⟩ wv) { D with wv:=wv,waits:=ws }∧Mod D.foot w (w1.setCell ⟨D.blk,3,none⟩ wv):=by
 have hkeep:∀ k,D.foot k→D.wv.ownBlock≠some k→w1.heap[k]?=w.heap[k]?:=fun k hk hne=>hg.block k (h.lt hk) (fun e=>hne e.symm)
 have hown:∀ k,D.wv.ownBlock=some k→k≠D.blk∧k≠D.mB∧∀ p∈D.files,k≠p.2.blk:=h.apart.2.2
 have hhead:w1.heap[D.blk]?=some (.cells D.head 78 (0,0)):=(hkeep _ (.inl rfl) (fun e=>(hown _ e).1 rfl)).trans h.head
 have hne:∀ k,wv.ownBlock=some k→k≠D.blk∧k≠D.mB∧∀ p∈D.files,k≠p.2.blk:=fun k hk=>by
  rcases hfr k hk with e | e
  · exact hown k e
  · refine ⟨fun e2=>?_,fun e2=>?_,fun p hp e2=>?_⟩
    · have:=h.lt (k:=k) (.inl e2); omega
    · have:=h.lt (k:=k) (.inr (.inl e2)); omega
    · have:=h.lt (k:=k) (.inr (.inr (.inl ⟨p,hp,e2⟩))); omega
 have hset:∀ k,k≠D.blk→(w1.setCell ⟨D.blk,3,none⟩ wv).heap[k]?=w1.heap[k]?:=fun k hk=>Below.heap_setCell _ _ _ _ (fun e=>hk e)
 obtain ⟨es,c,m1,m2,m3⟩:=h.map
 refine ⟨⟨heap_set1 hhead _ rfl,⟨es,c,?_,m2,m3⟩,fun p hp=>?_,?_,h.names,h.blocks,⟨h.apart.1,h.apart.2.1,hne⟩,h.above,h.ints,h.fits,hwf⟩,?_⟩
 · exact ((hset _ (fun e=>h.apart.1 e.symm)).trans (hkeep _ (.inr (.inl rfl)) (fun e=>(hown _ e).2.1 rfl))).trans m1
 · exact ((hset _ (h.apart.2.1 p hp).1).trans (hkeep _ (.inr (.inr (.inl ⟨p,hp,rfl⟩))) (fun e=>(hown _ e).2.2 p hp rfl))).trans (h.file p hp)
 ·
  refine ⟨hrow.1,?_⟩
  rcases hrow.2 with h0 | ⟨g,cap,cur,e,hb,hgg,r⟩
  · exact .inl h0
  · have hw:wv.ownBlock=some g:=by rw [e]; rfl
    exact .inr ⟨g,cap,cur,e,hb,(hset g (hne g hw).1).trans hgg,r⟩
 · have h1:Mod D.foot w w1:=⟨hg.os,hg.tape,hg.output,hg.size,fun k hk hnf=>hg.block k hk (fun e=>hnf (.inr (.inr (.inr e.symm))))⟩
   exact h1.setCell (.inl (.inl rfl)) _
theorem burn_eq (D:DiskD):∃ L Dn,D.burn={ D with left:=L,down:=Dn }:=by
 unfold DiskD.burn
 split
 · exact ⟨-1,true,rfl⟩
 · split
   · exact ⟨D.left - 1,D.down,rfl⟩
   · exact ⟨D.left,D.down,rfl⟩
theorem own_slice {w:World} {base n sz:Nat} {e:TypeId} {v:Value} {xs:List Value} (h:w.ownsRow base e sz v n xs):∃ a cp,v=.slice a n cp:=by
 rcases h.2 with ⟨rfl,rfl⟩ | ⟨g,cap,cur,rfl,_⟩
 · exact ⟨none,0,rfl⟩
 · exact ⟨_,_,rfl⟩
theorem append_write {base:Nat} {w:World} {D:DiskD} (h:DiskAt base w D) (x:WriteD) (hx:∃ p∈D.files,p.2.blk=x.blk) (hwl:D.waits.length≤1048576) (hbase:base≤w.heap.size) :
 ∃ v' w8,(Builtin.append_ #[76,76] 76 #[D.wv,.slice (some ⟨w.heap.size,0,none⟩) 1 1]).run Tryz.prog (w.alloc (.cells #[.pointer (some ⟨x.blk,0,none⟩),.int .i64 (x.pos:Int),.string (S x.txt)] 281))=.ok v' w8 ∧
  DiskAt base (w8.setCell ⟨D.blk,3,none⟩ v') { D with wv:=v',waits:=D.waits++[x] }∧Mod D.foot w (w8.setCell ⟨D.blk,3,none⟩ v')∧(∃ a cp,v'=.slice a (D.waits.length+1) cp) ∧
  (∃ u,w8.cell? ⟨D.blk,3,none⟩=some u)∧w8.frozen? ⟨D.blk,3,none⟩=false∧∀ k,v'.ownBlock=some k→D.foot k∨w.heap.size≤k:=by
 have hb7:Below w.heap.size w (w.alloc (.cells #[.pointer (some ⟨x.blk,0,none⟩),.int .i64 (x.pos:Int),.string (S x.txt)] 281)):=(Below.refl _ _).alloc (Nat.le_refl _) _
 have hd7:=h.below hb7
 obtain ⟨i0,hi0,hz0,hz1,hz2⟩:∃ i,Tryz.prog.info? 281=some i∧i.zero=some (.agg #[.pointer none,.int .i64 0,.string ⟨#[]⟩])∧i.size=3∧i.bytes=32:=by
  have:=(show (Tryz.prog.info? 281).map (fun i=>(i.zero,i.size,i.bytes))=some (some (.agg #[.pointer none,.int .i64 0,.string ⟨#[]⟩]),3,32) by kernel_rfl)
  cases hh:Tryz.prog.info? 281 with
  | none=>rw [hh] at this; cases this
  | some i=>rw [hh] at this; have h2:=Option.some.inj this; exact ⟨i,rfl,congrArg (·.1) h2,congrArg (·.2.1) h2,congrArg (·.2.2) h2⟩
 obtain ⟨v',w8,hr,hrow,hgb,_,hob⟩:=run_append_own_at (P:=Tryz.prog) _ base 76 76 281 i0 (.agg #[.pointer none,.int .i64 0,.string ⟨#[]⟩]) 3 32 Tryz.underlying76 hi0 hz0 hz1 hz2 rfl (by omega) _ _ _ hd7.row
  ⟨w.heap.size,0,none⟩ 1 1 x.cells rfl (fun j u hu=>by
   have hadd:(⟨w.heap.size,0,none⟩:Addr).add j=⟨w.heap.size,j,none⟩:=by unfold Addr.add; split <;> simp_all
   rw [hadd,World.cell?_alloc_new]
   match j,hu with
   | 0,hu=>exact hu
   | 1,hu=>exact hu
   | 2,hu=>exact hu
   | j+3,hu=>cases hu) (fun u hu=>by
   simp only [WriteD.cells,List.mem_cons,List.not_mem_nil,or_false] at hu
   rcases hu with rfl | rfl | rfl <;> rfl) (by unfold maxLen; omega) (by omega) (Nat.le_trans hbase hb7.size)
 have hws:waitsL D.waits++x.cells=waitsL (D.waits++[x]):=by unfold waitsL; simp
 have hrow2:w8.ownsRow base 281 3 v' (D.waits++[x]).length (waitsL (D.waits++[x])):=by rw [← hws,List.length_append]; exact hrow
 have hsz7:(w.alloc (.cells #[.pointer (some ⟨x.blk,0,none⟩),.int .i64 (x.pos:Int),.string (S x.txt)] 281)).heap.size=w.heap.size+1:=World.size_alloc _ _
 obtain ⟨h1,h2⟩:=hd7.set_waits v' (D.waits++[x]) hgb hrow2 (fun k hk=>by
  rcases hob with e | e
  · exact .inl (e ▸ hk)
  · rw [e] at hk; cases hk; exact .inr (Nat.le_refl _)) (fun y hy=>by
  rcases List.mem_append.1 hy with h1 | h1
  · exact h.waitf y h1
  · rw [List.mem_singleton] at h1; subst h1; exact hx)
 have hhead:w8.heap[D.blk]?=some (.cells D.head 78 (0,0)):=(hgb.block _ (hd7.lt (.inl rfl)) (fun e=>(hd7.apart.2.2 _ e.symm).1 rfl)).trans hd7.head
 refine ⟨v',w8,hr,h1,(Mod.of_below hb7).trans h2,own_slice hrow,⟨D.wv,?_⟩,?_,fun k hk=>?_⟩
 · unfold World.cell?; rw [show w8.heap[(⟨D.blk,3,none⟩:Addr).block]?=_ from hhead]; rfl
 · unfold World.frozen?; rw [show w8.heap[(⟨D.blk,3,none⟩:Addr).block]?=_ from hhead]; rfl
 · rcases hob with e | e
   · exact .inl (.inr (.inr (.inr (e ▸ hk))))
   · rw [e] at hk; cases hk; right; omega
def DiskD.fitB (D:DiskD) (f:FileD) (o:Int) (t:List UInt8):Int:=if o < 0∨(f.now.length:Int) < o then 2 else if D.room < o+(t.length:Int) - (f.now.length:Int) then 7 else 0
def DiskD.writeE (D:DiskD) (n:List UInt8) (o:Int) (t:List UInt8):Int :=
 if D.bars [n]=0 then (match D.find n with | none=>9 | some f=>if D.fitB f o t=0 then D.done else D.fitB f o t) else D.bars [n]
def DiskD.write (D:DiskD) (n:List UInt8) (o:Int) (t:List UInt8) (wv:Value):DiskD :=
 if D.bars [n]=0 then (match D.find n with
  | none=>D
  | some f=>if D.fitB f o t=0 then (if D.left=0∨t=[] then D.burn else { D.burn with files:=setNow D.files n (laidL f.now o.toNat t),wv:=wv,waits:=D.waits++[⟨f.blk,o.toNat,t⟩] }) else D)
 else D
theorem write_any {base:Nat} {D:DiskD} (n:List UInt8) (o:Int) (ho : -9223372036854775808≤o∧o≤9223372036854775807) (t:List UInt8) (ht:t.length≤1099511627776) (hwl:D.waits.length≤1048576) (w:World) (h:DiskAt base w D) (hbase:base≤w.heap.size) :
 Calls Tryz.prog 126 #[.pointer (some ⟨D.blk,0,none⟩),.string (S n),.int .i64 o,.string (S t)] w fun e w'=>∃ wv,e=.returned (.int .i64 (D.writeE n o t))∧DiskAt base w' (D.write n o t wv)∧Mod D.foot w w'∧∀ k,(D.write n o t wv).foot k→D.foot k∨w.heap.size≤k:=by
 have HB:Hid (Below w.heap.size w (w.alloc (.cells #[.string (S n)] 9))):=(Below.refl _ _).alloc (Nat.le_refl _) _
 have hd:=h.below HB.out
 have HBA:=Lib.hid (bars_any (some ⟨w.heap.size,0,none⟩) 1 [n] (by simp) _ hd (row_one w n _))
 have hlk:=lookup_file hd n
 have c2:(w.alloc (.cells #[.string (S n)] 9)).cell? ⟨D.blk,2,none⟩=some (.map (some D.mB)):=hd.cell 2 _ rfl
 have HD1:=Lib.hid hd
 have HE:Hid (D.writeE n o t=if D.bars [n]=0 then (match D.find n with | none=>9 | some f=>if D.fitB f o t=0 then D.done else D.fitB f o t) else D.bars [n]):=rfl
 have HW:Hid (∀ wv,D.write n o t wv=if D.bars [n]=0 then (match D.find n with | none=>D | some f=>if D.fitB f o t=0 then (if D.left=0∨t=[] then D.burn else { D.burn with files:=setNow D.files n (laidL f.now o.toNat t),wv:=wv,waits:=D.waits++[⟨f.blk,o.toNat,t⟩] }) else D) else D):=fun _=>rfl
 have hsz:=S_size
 have htl:=S_toList
 rw [bars_one] at HBA HE HW
 have HWS:Hid (w.heap.size≤(w.alloc (.cells #[.string (S n)] 9)).heap.size):=HB.out.size
 clear h hd
 go_enter Tryz.func126,Tryz.ntmps126
 go_wp2_with fail
 refine HBA.out.mono ?_
 rintro e w1 ⟨rfl,rfl⟩
 clear HBA
 generalize hw1:w.alloc (.cells #[.string (S n)] 9)=w1 at *
 clear hw1
 cases hdn:D.down with
 | true =>
   rw [hdn] at HE HW
   go_wp2_with fail
   go_ret
   exact ⟨D.wv,by rw [HE.out]; rfl,by rw [HW.out,if_neg (by simp)]; exact HD1.out,Mod.of_below HB.out,fun k hk=>by rw [HW.out,if_neg (by simp)] at hk; exact .inl hk⟩
 | false =>
   rw [hdn] at HE HW
   clear hdn
   cases hf:D.find n with
   | none =>
     rw [hf] at HE HW
     go_wp2_with fail
     go_ret
     exact ⟨D.wv,by rw [HE.out]; rfl,by rw [HW.out,if_neg (by simp)]; exact HD1.out,Mod.of_below HB.out,fun k hk=>by rw [HW.out,if_neg (by simp)] at hk; exact .inl hk⟩
   | some f =>
     have hmem:=find_some hf
     have HMEM:=Lib.hid hmem
     have hnow:=HD1.out.now hf
     have hsm:f.now.length≤16777216:=by have:=HD1.out.small n; unfold DiskD.bytes at this; rw [hf] at this; exact this
     rw [hf] at HE HW hlk
     unfold fileV at hlk
     simp only [Option.map_some] at hlk
     clear hf hmem
     replace HE:Hid (D.writeE n o t=if D.fitB f o t=0 then D.done else D.fitB f o t):=by show _=_; rw [HE.out,if_pos (by simp)]
     replace HW:Hid (∀ wv,D.write n o t wv=if D.fitB f o t=0 then (if D.left=0∨t=[] then D.burn else { D.burn with files:=setNow D.files n (laidL f.now o.toNat t),wv:=wv,waits:=D.waits++[⟨f.blk,o.toNat,t⟩] }) else D):=fun wv=>by rw [HW.out,if_pos (by simp)]
     have HFB:Hid (D.fitB f o t=if o < 0∨(f.now.length:Int) < o then 2 else if D.room < o+(t.length:Int) - (f.now.length:Int) then 7 else 0):=rfl
     by_cases h1:o < 0
     · have hfb:D.fitB f o t=2:=by rw [HFB.out,if_pos (.inl h1)]
       have d1:decide (o < 0)=true:=decide_eq_true h1
       rw [hfb] at HE HW
       clear hfb
       go_wp2_with fail
       go_ret
       exact ⟨D.wv,by rw [HE.out]; rfl,by rw [HW.out,if_neg (by decide)]; exact HD1.out,Mod.of_below HB.out,fun k hk=>by rw [HW.out,if_neg (by decide)] at hk; exact .inl hk⟩
     have d1:decide (o < 0)=false:=decide_eq_false h1
     by_cases h2:(f.now.length:Int) < o
     · have hfb:D.fitB f o t=2:=by rw [HFB.out,if_pos (.inr h2)]
       have d2:decide ((f.now.length:Int) < o)=true:=decide_eq_true h2
       rw [hfb] at HE HW
       clear hfb
       go_wp2_with fail
       go_ret
       exact ⟨D.wv,by rw [HE.out]; rfl,by rw [HW.out,if_neg (by decide)]; exact HD1.out,Mod.of_below HB.out,fun k hk=>by rw [HW.out,if_neg (by decide)] at hk; exact .inl hk⟩
     obtain ⟨o,rfl⟩:=Int.eq_ofNat_of_zero_le (show 0≤o by omega)
     have hle:o≤f.now.length:=by omega
     have d2:decide (f.now.length < o)=false:=decide_eq_false (by omega)
     have hroom:0≤D.room:=by have:=HD1.out.fits; show (0:Int)≤D.cap - (D.size:Int); omega
     have hroom2:D.room≤16777216:=by have:=HD1.out.ints; show D.cap - (D.size:Int)≤_; omega
     have hwa:IntKind.i64.wrap ((o:Int)+(t.length:Int))=(o:Int)+(t.length:Int):=IntWalk.i64_in _ (by omega)
     have hwb:IntKind.i64.wrap ((o:Int)+(t.length:Int) - (f.now.length:Int))=(o:Int)+(t.length:Int) - (f.now.length:Int):=IntWalk.i64_in _ (by omega)
     have HNW:Hid (∀ w2,Ext w1.drew w2→w2.cell? ⟨f.blk,1,none⟩=some (.string (S f.now))):=fun w2 hw=>by
      have hdd:=HD1.out.below ((Below.refl _ _).drew.trans hw)
      have:=hdd.file _ HMEM.out
      unfold World.cell?; rw [show w2.heap[(⟨f.blk,1,none⟩:Addr).block]?=_ from this]; rfl
     have hn12:¬ ((o:Int) < 0∨(f.now.length:Int) < (o:Int)):=by omega
     by_cases h3:D.room < (o:Int)+(t.length:Int) - (f.now.length:Int)
     ·
      have hfb:D.fitB f o t=7:=by rw [HFB.out,if_neg hn12,if_pos h3]
      have d3:decide (D.room < (o:Int)+(t.length:Int) - (f.now.length:Int))=true:=decide_eq_true h3
      have d4:decide ((f.now.length:Int) < (o:Int)+(t.length:Int))=true:=decide_eq_true (by omega)
      rw [hfb] at HE HW
      clear hfb
      go_upto_region 7 with fail
      refine Grow.wp_region_g 26 [none,none,none,none,none,none,none,some (.inl (.string (S f.now))),none,none,none,some (.inl (.int .i64 D.room)),some (.inl (.bool true)),some (.inl (.bool true)),none,none,none,none,none,none,none,some (.inl (.string (S f.now))),none,none,none,none] Ext (by kernel_rfl) (by kernel_rfl) (by kernel_rfl) Ext.refl (fun _ _ _=>Ext.trans) ?_ ?_
      · intro K hK Y hY v w w' hR h
        simp only [List.mem_cons,List.not_mem_nil,or_false] at hK
        rcases hK with rfl | rfl | rfl | rfl | rfl | rfl | rfl | rfl | rfl | rfl | rfl | rfl | rfl | rfl | rfl | rfl | rfl | rfl | rfl | rfl | rfl | rfl | rfl | rfl | rfl | rfl <;> simp only [reduceCtorEq,Option.some.injEq,Sum.inr.injEq] at hY
      simp only [List.take_succ_cons,List.take_zero,List.drop_succ_cons,List.drop_zero]
      iterate 7
       refine Grow.g_det rfl ?_
       apply Exists.intro
       refine ⟨fun w2 hw hF=>?_,?_⟩
       · clear hF
         go_simp
         exact ⟨rfl,Ext.refl _⟩
       go_frame
      refine Grow.g_con rfl (fun w2 hw hF=>?_) ?_
      · clear hF
        have c1:=HNW.out w2 hw
        go_simp
        all_goals exact Ext.refl _
      iterate 3
       go_frame
       refine Grow.g_det rfl ?_
       apply Exists.intro
       refine ⟨fun w2 hw hF=>?_,?_⟩
       · clear hF
         go_simp
         exact ⟨rfl,Ext.refl _⟩
      go_frame
      refine Grow.g_con rfl (fun w2 hw hF=>?_) ?_
      · clear hF
        go_simp
        exact (room_any w2 (HD1.out.below ((Below.refl _ _).drew.trans hw))).mono fun e w3 h=>⟨_,h.1,rfl,h.2⟩
      iterate 2
       go_frame
       refine Grow.g_con rfl (fun w2 hw hF=>?_) ?_
       · clear hF
         go_simp
         all_goals exact Ext.refl _
      iterate 7
       go_frame
       refine Grow.g_det rfl ?_
       apply Exists.intro
       refine ⟨fun w2 hw hF=>?_,?_⟩
       · clear hF
         go_simp
         exact ⟨rfl,Ext.refl _⟩
      go_frame
      refine Grow.g_con rfl (fun w2 hw hF=>?_) ?_
      · clear hF
        have c1:=HNW.out w2 hw
        go_simp
        all_goals exact Ext.refl _
      iterate 4
       go_frame
       refine Grow.g_det rfl ?_
       apply Exists.intro
       refine ⟨fun w2 hw hF=>?_,?_⟩
       · clear hF
         go_simp
         exact ⟨rfl,Ext.refl _⟩
      go_frame
      refine Grow.g_nil fun w3 hw3 hF=>?_
      clear hF
      refine wpList_nil ?_
      have HB3:=Lib.hid (HB.out.trans (((Below.refl w1.heap.size w1).drew.trans hw3).mono HWS.out))
      have HD3:=Lib.hid (HD1.out.below ((Below.refl _ _).drew.trans hw3))
      clear hw3
      go_wp2_with fail
      go_ret
      exact ⟨D.wv,by rw [HE.out]; rfl,by rw [HW.out,if_neg (by decide)]; exact HD3.out,Mod.of_below HB3.out,fun k hk=>by rw [HW.out,if_neg (by decide)] at hk; exact .inl hk⟩
     ·
      have hfb:D.fitB f o t=0:=by rw [HFB.out,if_neg hn12,if_neg h3]
      have d3:decide (D.room < (o:Int)+(t.length:Int) - (f.now.length:Int))=false:=decide_eq_false h3
      rw [hfb] at HE HW
      clear hfb
      have H3:=Lib.hid h3
      clear h3
      go_upto_region 7 with fail
      refine Grow.wp_region_g 26 [none,none,none,none,none,none,none,some (.inl (.string (S f.now))),none,none,none,some (.inl (.int .i64 D.room)),some (.inl (.bool false)),some (.inl (.bool false)),none,none,none,none,none,none,none,none,none,none,some (.inl (.bool false)),some (.inl (.bool false))] Ext (by kernel_rfl) (by kernel_rfl) (by kernel_rfl) Ext.refl (fun _ _ _=>Ext.trans) ?_ ?_
      · intro K hK Y hY v w w' hR h
        simp only [List.mem_cons,List.not_mem_nil,or_false] at hK
        rcases hK with rfl | rfl | rfl | rfl | rfl | rfl | rfl | rfl | rfl | rfl | rfl | rfl | rfl | rfl | rfl | rfl | rfl | rfl | rfl | rfl | rfl | rfl | rfl | rfl | rfl | rfl <;> simp only [reduceCtorEq,Option.some.injEq,Sum.inr.injEq] at hY
      simp only [List.take_succ_cons,List.take_zero,List.drop_succ_cons,List.drop_zero]
      iterate 7
       refine Grow.g_det rfl ?_
       apply Exists.intro
       refine ⟨fun w2 hw hF=>?_,?_⟩
       · clear hF
         go_simp
         exact ⟨rfl,Ext.refl _⟩
       go_frame
      refine Grow.g_con rfl (fun w2 hw hF=>?_) ?_
      · clear hF
        have c1:=HNW.out w2 hw
        go_simp
        all_goals exact Ext.refl _
      iterate 3
       go_frame
       refine Grow.g_det rfl ?_
       apply Exists.intro
       refine ⟨fun w2 hw hF=>?_,?_⟩
       · clear hF
         go_simp
         exact ⟨rfl,Ext.refl _⟩
      go_frame
      refine Grow.g_con rfl (fun w2 hw hF=>?_) ?_
      · clear hF
        go_simp
        exact (room_any w2 (HD1.out.below ((Below.refl _ _).drew.trans hw))).mono fun e w3 h=>⟨_,h.1,rfl,h.2⟩
      iterate 2
       go_frame
       refine Grow.g_con rfl (fun w2 hw hF=>?_) ?_
       · clear hF
         go_simp
         all_goals exact Ext.refl _
      iterate 10
       go_frame
       apply Grow.g_skip
       · kernel_rfl
      iterate 2
       go_frame
       refine Grow.g_con rfl (fun w2 hw hF=>?_) ?_
       · clear hF
         go_simp
         all_goals exact Ext.refl _
      go_frame
      refine Grow.g_nil fun w3 hw3 hF=>?_
      clear hF
      refine wpList_nil ?_
      have HB3:=Lib.hid (HB.out.trans (((Below.refl w1.heap.size w1).drew.trans hw3).mono HWS.out))
      have HD3:=Lib.hid (HD1.out.below ((Below.refl _ _).drew.trans hw3))
      clear hw3
      have HDN:=Lib.hid (done_any w3 HD3.out)
      replace HE:Hid (D.writeE n (o:Int) t=D.done):=by show _=_; rw [HE.out,if_pos (by simp)]
      replace HW:Hid (∀ wv,D.write n (o:Int) t wv=if D.left=0∨t=[] then D.burn else { D.burn with files:=setNow D.files n (laidL f.now o t),wv:=wv,waits:=D.waits++[⟨f.blk,o,t⟩] }):=fun wv=>by rw [HW.out,if_pos (by simp),Int.toNat_natCast]
      obtain ⟨L,Dn,hbe⟩:=burn_eq D
      rw [hbe] at HDN HW
      have HBE:=Lib.hid hbe
      clear hbe
      go_wp2_with fail
      refine HDN.out.mono ?_
      rintro e w4 ⟨rfl,hd4,hm4⟩
      have HD4:=Lib.hid hd4
      have HM4:Hid (Mod D.foot w w4):=(Mod.of_below HB3.out).trans ((Mod.below_foot hm4).mono (fun _ _ h=>h))
      have HS4:Hid (w.heap.size≤w4.heap.size):=HM4.out.size
      clear hd4 hm4 HDN HD3 HB3 HNW
      by_cases h0:D.left=0
      · have hdone:D.done=8:=if_pos h0
        rw [hdone] at HE ⊢
        clear hdone
        go_wp2_with fail
        go_ret
        exact ⟨D.wv,by rw [HE.out]; rfl,by rw [HW.out,if_pos (.inl h0)]; exact HD4.out,HM4.out,fun k hk=>by rw [HW.out,if_pos (.inl h0)] at hk; exact .inl hk⟩
      have hdone:D.done=0:=if_neg h0
      rw [hdone] at HE ⊢
      clear hdone
      by_cases ht0:t=[]
      · subst ht0
        go_wp2_with fail
        go_ret
        exact ⟨D.wv,by rw [HE.out]; rfl,by rw [HW.out,if_pos (.inr trivial)]; exact HD4.out,HM4.out,fun k hk=>by rw [HW.out,if_pos (.inr trivial)] at hk; exact .inl hk⟩
      have hte:t.isEmpty=false:=by cases t with
       | nil=>exact absurd rfl ht0
       | cons _ _=>rfl
      have hno:¬ (D.left=0∨t=[]):=fun h=>h.elim h0 ht0
      have hnow4:w4.cell? ⟨f.blk,1,none⟩=some (.string (S f.now)):=by
       have:=HD4.out.file (n,f) HMEM.out
       unfold World.cell?; rw [show w4.heap[(⟨f.blk,1,none⟩:Addr).block]?=_ from this]; rfl
      have HLD:=Lib.hid (fun w=>laid_any f.now o t (by omega) (by omega) ht w)
      clear hnow hlk c2 HD1 HB d1 d2 d3
      go_wp2_with fail
      refine (HLD.out _).mono ?_
      rintro e w5 ⟨rfl,hb5⟩
      clear HLD hnow4
      have hd5:=HD4.out.below hb5
      have HM5:Hid (Mod D.foot w w5):=HM4.out.trans (Mod.of_below hb5)
      have HLL:Hid ((laidL f.now o t).length=max f.now.length (o+t.length)):=by
       show _=_
       unfold laidL
       rw [if_neg ht0,over_length _ _ _ (by simp; omega)]
       simp; omega
      have hfit:((sizeL (setNow D.files n (laidL f.now o t)):Nat):Int)≤D.cap:=by
       have h1:=sizeL_set D.files n (laidL f.now o t) f HD4.out.names HMEM.out
       have h2:=HLL.out
       have h3:=H3.out
       have h4:D.room=D.cap - (D.size:Int):=rfl
       have h5:D.size=sizeL D.files:=rfl
       rw [h4,h5] at h3
       omega
      have hnow5:w5.cell? ⟨f.blk,1,none⟩=some (.string (S f.now)):=by
       have:=hd5.file (n,f) HMEM.out
       unfold World.cell?; rw [show w5.heap[(⟨f.blk,1,none⟩:Addr).block]?=_ from this]; rfl
      have hfr5:w5.frozen? ⟨f.blk,1,none⟩=false:=by
       have:=hd5.file (n,f) HMEM.out
       unfold World.frozen?; rw [show w5.heap[(⟨f.blk,1,none⟩:Addr).block]?=_ from this]; rfl
      obtain ⟨hd6,hm6⟩:=hd5.set_now (n:=n) (f:=f) HMEM.out (laidL f.now o t) hfit
      have HM6:Hid (Mod D.foot w (w5.setCell ⟨f.blk,1,none⟩ (.string (S (laidL f.now o t))))):=HM5.out.trans hm6
      have HD6:=Lib.hid hd6
      clear hd6 hm6 hd5 hfit
      go_upto_region 14 with fail
      clear hnow5 hfr5 hb5
      generalize w5.setCell ⟨f.blk,1,none⟩ (.string (S (laidL f.now o t)))=w6 at *
      obtain ⟨v',w8,hr,hd8,hm8,⟨a',cp',hv'⟩,⟨u3,hu3⟩,hfr8,hft⟩:=append_write HD6.out ⟨f.blk,o,t⟩ (setNow_has HMEM.out) hwl (Nat.le_trans hbase HM6.out.size)
      obtain ⟨aw,cw,hwv⟩:=own_slice HD6.out.row
      replace hwv:D.wv=.slice aw D.waits.length cw:=hwv
      have c3:(w6.alloc (.cells #[.pointer (some ⟨f.blk,0,none⟩),.int .i64 (o:Int),.string (S t)] 281)).cell? ⟨D.blk,3,none⟩=some (.slice aw D.waits.length cw):=by
       have h1:Below w6.heap.size w6 (w6.alloc (.cells #[.pointer (some ⟨f.blk,0,none⟩),.int .i64 (o:Int),.string (S t)] 281)):=(Below.refl w6.heap.size w6).alloc (Nat.le_refl _) _
       exact (HD6.out.below h1).cell 3 _ (by show some D.wv=_; rw [hwv])
      have c3b:w6.cell? ⟨D.blk,3,none⟩=some (.slice aw D.waits.length cw):=HD6.out.cell 3 _ (by show some D.wv=_; rw [hwv])
      have hr2:(Builtin.append_ #[76,76] 76 #[.slice aw D.waits.length cw,.slice (some ⟨w6.heap.size,0,none⟩) 1 1]).run Tryz.prog (w6.alloc (.cells #[.pointer (some ⟨f.blk,0,none⟩),.int .i64 (o:Int),.string (S t)] 281))=.ok v' w8:=by rw [← hwv]; exact hr
      have hfs:∀ k,(∃ p∈setNow D.files n (laidL f.now o t),k=p.2.blk)→(∃ p∈D.files,k=p.2.blk):=fun k ⟨p,hp,hk⟩=>by
       obtain ⟨q,hq,hb,_⟩:=setNow_mem hp
       exact ⟨q,hq,hk.trans hb⟩
      have HM9:Hid (Mod D.foot w (w8.setCell ⟨D.blk,3,none⟩ v')):=HM6.out.trans (hm8.mono (fun k _ hk=>by
       rcases hk with h | h | h | h
       · exact .inl h
       · exact .inr (.inl h)
       · exact .inr (.inr (.inl (hfs k h)))
       · exact .inr (.inr (.inr h))))
      have HU9:Hid (∀ k,v'.ownBlock=some k→D.foot k∨w.heap.size≤k):=fun k hk=>by
       rcases hft k hk with h | h
       · rcases h with h | h | h | h
         · exact .inl (.inl h)
         · exact .inl (.inr (.inl h))
         · exact .inl (.inr (.inr (.inl (hfs k h))))
         · exact .inl (.inr (.inr (.inr h)))
       · exact .inr (Nat.le_trans HM6.out.size h)
      have HFS:=Lib.hid hfs
      have HD9:=Lib.hid hd8
      have HR2:=Lib.hid hr2
      replace hu3:w8.cell? ⟨D.blk,3,none⟩=some u3:=hu3
      replace hfr8:w8.frozen? ⟨D.blk,3,none⟩=false:=hfr8
      replace hv':v'=.slice a' (D.waits.length+1) cp':=hv'
      clear hr2 hd8 hm8 hr hft hwv hfs
      subst hv'
      go_wp2_with (at_builtin; refine Lib.wpList_append_run _ rfl (.tmp 84) (.tmp 89) 76 76 rfl _ _ rfl rfl _ _ HR2.out ?_)
      go_ret
      refine ⟨by rw [HE.out]; rfl,Value.slice a' (D.waits.length+1) cp',?_,HM9.out,fun k hk=>?_⟩
      · rw [HW.out,if_neg hno]; exact HD9.out
      rw [HW.out,if_neg hno] at hk
      rcases hk with h | h | h | h
      · exact .inl (.inl h)
      · exact .inl (.inr (.inl h))
      · exact .inl (.inr (.inr (.inl (HFS.out k h))))
      · exact HU9.out k h
theorem len_any {base:Nat} {D:DiskD} (n:List UInt8) (w:World) (h:DiskAt base w D) :
 Calls Tryz.prog 218 #[.pointer (some ⟨D.blk,0,none⟩),.string (S n)] w fun e w'=>e=.returned (.int .i64 ((D.bytes n).length:Int))∧w'=w:=by
 have hlk:=lookup_file h n
 have c2:w.cell? ⟨D.blk,2,none⟩=some (.map (some D.mB)):=h.cell 2 _ rfl
 have HY:Hid (D.bytes n=nowF (D.find n)):=rfl
 have hsz:=S_size
 cases hf:D.find n with
 | none =>
   rw [hf] at hlk HY
   unfold fileV at hlk
   simp only [Option.map_none] at hlk
   clear h hf
   go_enter Tryz.func218,Tryz.ntmps218
   go_wp2_with fail
   go_ret
   rw [HY.out]
   exact ⟨rfl,rfl⟩
 | some f =>
   have hnow:=h.now hf
   rw [hf] at hlk HY
   unfold fileV at hlk
   simp only [Option.map_some] at hlk
   clear h hf
   go_enter Tryz.func218,Tryz.ntmps218
   go_wp2_with fail
   go_ret
   rw [HY.out]
   exact ⟨rfl,rfl⟩
/-! the writes of one file go out of the row -/
theorem closure_any (fb k:Nat) (p:Nat) (bx:Nat) (t:List UInt8) (w:World) (hc:w.cell? ⟨bx,0,none⟩=some (.pointer (some ⟨fb,0,none⟩))) {ca cb:Array Value} {ta tb:TypeId} (hk:w.heap[k]?=some (.cells ca ta (0,0))) (hf:w.heap[fb]?=some (.cells cb tb (0,0))) :
 Calls Tryz.prog 228 #[.agg #[.pointer (some ⟨k,0,none⟩),.int .i64 (p:Int),.string (S t)],.pointer (some ⟨bx,0,none⟩)] w fun e w'=>e=.returned (.bool (decide (k=fb)))∧Below w.heap.size w w':=by
 have hb:Hid (Below w.heap.size w (w.alloc (.cells #[.pointer (some ⟨k,0,none⟩),.int .i64 (p:Int),.string (S t)] 281))):=(Below.refl _ _).alloc (Nat.le_refl _) _
 have hc2:(w.alloc (.cells #[.pointer (some ⟨k,0,none⟩),.int .i64 (p:Int),.string (S t)] 281)).cell? ⟨bx,0,none⟩=some (.pointer (some ⟨fb,0,none⟩)):=by rw [hb.out.cell (cell_lt hc)]; exact hc
 have hk2:=(hb.out.block k (Array.getElem?_eq_some_iff.1 hk).1).trans hk
 have hf2:=(hb.out.block fb (Array.getElem?_eq_some_iff.1 hf).1).trans hf
 obtain ⟨i0,hi0,hz1⟩:∃ i,Tryz.prog.info? 87=some i∧i.size=2:=by
  have:=(show (Tryz.prog.info? 87).map (fun i=>i.size)=some 2 by kernel_rfl)
  cases hh:Tryz.prog.info? 87 with
  | none=>rw [hh] at this; cases this
  | some i=>rw [hh] at this; exact ⟨i,rfl,Option.some.inj this⟩
 have heq:(binOp .eql 85 (.pointer (some ⟨k,0,none⟩)) (.pointer (some ⟨fb,0,none⟩))).run Tryz.prog (w.alloc (.cells #[.pointer (some ⟨k,0,none⟩),.int .i64 (p:Int),.string (S t)] 281))=.ok (.bool (decide (k=fb))) (w.alloc (.cells #[.pointer (some ⟨k,0,none⟩),.int .i64 (p:Int),.string (S t)] 281)):=by
  by_cases e:k=fb
  · subst e
    rw [decide_eq_true rfl]
    exact run_eql_ptr_same _ _ Tryz.underlying85 hi0
  · rw [decide_eq_false e]
    exact run_eql_ptr_other _ Tryz.underlying85 hi0 (by omega) (fun q=>e (congrArg Addr.block q)) hk2 hf2
 clear hc hk hf hk2 hf2 hi0 hz1
 generalize decide (k=fb)=bb at *
 go_enter Tryz.func228,Tryz.ntmps228
 go_wp2_with fail
 go_ret
 exact ⟨rfl,hb.out⟩
def RowW (w:World) (a:Option Addr) (ws:List WriteD):Prop:=∀ (k:Nat) (h:k < ws.length),∃ g,a=some ⟨g,0,none⟩∧g < w.heap.size∧w.cell? ⟨g,k * 3,none⟩=some (.pointer (some ⟨ws[k].blk,0,none⟩))∧w.cell? ⟨g,k * 3+1,none⟩=some (.int .i64 (ws[k].pos:Int))∧w.cell? ⟨g,k * 3+2,none⟩=some (.string (S ws[k].txt))
theorem RowW.below {w w':World} {a:Option Addr} {ws:List WriteD} (h:RowW w a ws) (hb:Below w.heap.size w w'):RowW w' a ws:=by
 intro k hk
 obtain ⟨g,e,hl,h1,h2,h3⟩:=h k hk
 exact ⟨g,e,Nat.lt_of_lt_of_le hl hb.size,by rw [hb.cell hl]; exact h1,by rw [hb.cell hl]; exact h2,by rw [hb.cell hl]; exact h3⟩
structure Seen (w:World) (bx fb:Nat) (ws:List WriteD):Prop where
 box:w.cell? ⟨bx,0,none⟩=some (.pointer (some ⟨fb,0,none⟩))
 file:∃ ca ta,w.heap[fb]?=some (.cells ca ta (0,0))
 all:∀ x∈ws,∃ ca ta,w.heap[x.blk]?=some (.cells ca ta (0,0))
theorem Seen.below {w w':World} {bx fb:Nat} {ws:List WriteD} (h:Seen w bx fb ws) (hb:Below w.heap.size w w'):Seen w' bx fb ws:=by
 refine ⟨by rw [hb.cell (cell_lt h.box)]; exact h.box,?_,fun x hx=>?_⟩
 · obtain ⟨ca,ta,hh⟩:=h.file
   exact ⟨ca,ta,(hb.block _ (Array.getElem?_eq_some_iff.1 hh).1).trans hh⟩
 · obtain ⟨ca,ta,hh⟩:=h.all x hx
   exact ⟨ca,ta,(hb.block _ (Array.getElem?_eq_some_iff.1 hh).1).trans hh⟩
def idxL (fb:Nat):List WriteD→Nat→Int
 | [],_ => -1
 | x :: l,i=>if x.blk=fb then (i:Int) else idxL fb l (i+1)
theorem idxL_hit (fb:Nat):∀ (ws:List WriteD) (k i:Nat) (h:k < ws.length),(∀ j (hj:j < k),(ws[j]'(by omega)).blk≠fb)→ws[k].blk=fb→idxL fb ws i=((i+k:Nat):Int)
 | x :: l,0,i,h,_,he=>by show (if x.blk=fb then (i:Int) else _)=_; rw [if_pos (show x.blk=fb from he)]; rfl
 | x :: l,k+1,i,h,hn,he=>by
   show (if x.blk=fb then (i:Int) else idxL fb l (i+1))=_
   rw [if_neg (show ¬ x.blk=fb from hn 0 (by omega)),idxL_hit fb l k (i+1) (by simpa using h) (fun j hj=>hn (j+1) (by omega)) he]
   congr 1; omega
theorem idxL_none (fb:Nat):∀ (ws:List WriteD) (i:Nat),(∀ x∈ws,x.blk≠fb)→idxL fb ws i = -1
 | [],_,_=>rfl
 | x :: l,i,h=>by show (if x.blk=fb then (i:Int) else idxL fb l (i+1))=_; rw [if_neg (h x (.head _)),idxL_none fb l (i+1) (fun y hy=>h y (.tail _ hy))]
theorem index_any (a:Option Addr) (cp:Nat) (ws:List WriteD) (hx:ws.length≤1048576) (bx fb:Nat) (w:World) (hr:RowW w a ws) (hs:Seen w bx fb ws) :
 Calls Tryz.prog 227 #[.slice a ws.length cp,.func (.func 228) #[] #[.pointer (some ⟨bx,0,none⟩)]] w fun e w'=>e=.returned (.int .i64 (idxL fb ws 0))∧Below w.heap.size w w':=by
 have HR:=Lib.hid hr
 have HS:=Lib.hid hs
 clear hr hs
 go_enter Tryz.func227,Tryz.ntmps227
 go_wp2_with fail
 go_loopw [8] (fun i wr=>∃ k:Nat,k≤ws.length∧i=.int .i64 (k:Int)∧Hid (∀ x∈ws.take k,x.blk≠fb)∧Hid (Below w.heap.size w wr)) (fun i _=>ws.length+1 - (intOf i).toNat)
 case atStart=>exact ⟨0,by omega,rfl,fun x hx=>by simp at hx,Below.refl _ _⟩
 case round =>
  obtain ⟨k,hk,rfl,HA,HB⟩:=hrel
  by_cases hlt:k < ws.length
  ·
   obtain ⟨g,rfl,hgl,h1,h2,h3⟩:=(HR.out.below HB.out) k hlt
   obtain ⟨ca,ta,hca⟩:=(HS.out.below HB.out).all ws[k] (List.getElem_mem hlt)
   obtain ⟨cb,tb,hcb⟩:=(HS.out.below HB.out).file
   have HCL:=Lib.hid (closure_any fb ws[k].blk ws[k].pos bx ws[k].txt wr (HS.out.below HB.out).box hca hcb)
   clear hca hcb
   have hst:ws.take (k+1)=ws.take k++[ws[k]]:=List.take_succ_eq_append_getElem hlt
   by_cases he:ws[k].blk=fb
   ·
    have HT:Hid (idxL fb ws 0=(k:Int)):=by
     show _=_
     rw [idxL_hit fb ws k 0 hlt (fun j hj=>HA.out _ (List.mem_take_iff_getElem.2 ⟨j,by omega,rfl⟩)) he,Nat.zero_add]
    rw [decide_eq_true he] at HCL
    clear hst he
    go_wp2_with fail
    refine HCL.out.mono ?_
    rintro e w2 ⟨rfl,hb⟩
    have HB2:=Lib.hid (HB.out.trans (hb.mono HB.out.size))
    clear hb HCL h1 h2 h3
    go_wp2_with fail
    go_ret
    rw [HT.out]
    exact ⟨rfl,HB2.out⟩
   ·
    have HA2:Hid (∀ x∈ws.take (k+1),x.blk≠fb):=by
     show ∀ x∈ws.take (k+1),x.blk≠fb
     rw [hst]
     intro x hx
     rcases List.mem_append.1 hx with h | h
     · exact HA.out x h
     · rw [List.mem_singleton] at h; subst h; exact he
    rw [decide_eq_false he] at HCL
    clear hst he
    go_wp2_with fail
    refine HCL.out.mono ?_
    rintro e w2 ⟨rfl,hb⟩
    have HB2:=Lib.hid (HB.out.trans (hb.mono HB.out.size))
    clear hb HCL h1 h2 h3
    go_wp2_with fail
    go_roundw
    case rel=>exact ⟨k+1,by omega,by go_num,HA2,HB2⟩
    case measure=>simp [intOf]; omega
  ·
   obtain rfl:k=ws.length:=by omega
   have HT:Hid (idxL fb ws 0 = -1):=by
    show _=_
    have:=HA.out
    rw [List.take_length] at this
    exact idxL_none fb ws 0 this
   go_wp2_with fail
   go_ret
   rw [HT.out]
   exact ⟨rfl,HB.out⟩
theorem waitsL_cons (x:WriteD) (l:List WriteD):waitsL (x :: l)=x.cells++waitsL l:=rfl
theorem waitsL_app (a b:List WriteD):waitsL (a++b)=waitsL a++waitsL b:=by unfold waitsL; simp
theorem waitsL_get:∀ (l:List WriteD) (k r:Nat) (h:k < l.length),r < 3→(waitsL l)[k * 3+r]?=(l[k]).cells[r]?
 | x :: l,0,r,_,hr=>by
   rw [waitsL_cons,Nat.zero_mul,Nat.zero_add,List.getElem?_append_left (by show r < 3; omega)]; rfl
 | x :: l,k+1,r,h,hr=>by
   have h3:(k+1) * 3+r=3+(k * 3+r):=by omega
   rw [waitsL_cons,h3,List.getElem?_append_right (by show 3≤_; omega)]
   have:3+(k * 3+r) - x.cells.length=k * 3+r:=by show 3+(k * 3+r) - 3=_; omega
   rw [this]
   exact waitsL_get l k r (by simpa using h) hr
theorem waitsL_set:∀ (l:List WriteD) (k:Nat) (x:WriteD),k < l.length →
 (((waitsL l).set (k * 3) (.pointer (some ⟨x.blk,0,none⟩))).set (k * 3+1) (.int .i64 (x.pos:Int))).set (k * 3+2) (.string (S x.txt))=waitsL (l.set k x)
 | y :: l,0,x,_=>rfl
 | y :: l,k+1,x,h=>by
   have ih:=waitsL_set l k x (by simpa using h)
   have e0:(k+1) * 3=k * 3+1+1+1:=by omega
   have e1:(k+1) * 3+1=(k * 3+1)+1+1+1:=by omega
   have e2:(k+1) * 3+2=(k * 3+2)+1+1+1:=by omega
   rw [e1,e2,e0,waitsL_cons,List.set_cons_succ,waitsL_cons]
   show ((((Value.pointer (some ⟨y.blk,0,none⟩) :: .int .i64 (y.pos:Int) :: .string (S y.txt) :: waitsL l).set (k * 3+1+1+1) _).set (k * 3+1+1+1+1) _).set (k * 3+2+1+1+1) _)=_
   simp only [List.set_cons_succ]
   rw [ih]; rfl
def Row3 (w:World) (g:Nat) (cur:List WriteD) (rest:List Value):Prop:=w.heap[g]?=some (.cells (waitsL cur++rest).toArray 281 (0,0))
theorem Row3.cell {w:World} {g:Nat} {cur:List WriteD} {rest:List Value} (h:Row3 w g cur rest) (k r:Nat) (hk:k < cur.length) (hr:r < 3):w.cell? ⟨g,k * 3+r,none⟩=(cur[k]).cells[r]?:=by
 unfold World.cell?
 rw [show w.heap[(⟨g,k * 3+r,none⟩:Addr).block]?=_ from h]
 show (waitsL cur++rest).toArray[k * 3+r]?=_
 have hl:k * 3+r < (waitsL cur).length:=by rw [waitsL_length]; omega
 rw [List.getElem?_toArray,List.getElem?_append_left hl]
 exact waitsL_get cur k r hk hr
theorem Row3.frozen {w:World} {g:Nat} {cur:List WriteD} {rest:List Value} (h:Row3 w g cur rest) (i:Nat):w.frozen? ⟨g,i,none⟩=false:=by
 unfold World.frozen?; rw [show w.heap[(⟨g,i,none⟩:Addr).block]?=_ from h]; rfl
theorem Row3.rowW {w:World} {g:Nat} {cur:List WriteD} {rest:List Value} (h:Row3 w g cur rest):RowW w (some ⟨g,0,none⟩) cur:=fun k hk =>
 ⟨g,rfl,(Array.getElem?_eq_some_iff.1 h).1,h.cell k 0 hk (by omega),h.cell k 1 hk (by omega),h.cell k 2 hk (by omega)⟩
theorem Row3.below {w w':World} {g:Nat} {cur:List WriteD} {rest:List Value} (h:Row3 w g cur rest) (hb:Below w.heap.size w w'):Row3 w' g cur rest :=
 (hb.block g (Array.getElem?_eq_some_iff.1 h).1).trans h
theorem Row3.put {w:World} {g:Nat} {cur:List WriteD} {rest:List Value} (h:Row3 w g cur rest) (k:Nat) (hk:k < cur.length) (x:WriteD) :
 Row3 (((w.setCell ⟨g,k * 3,none⟩ (.pointer (some ⟨x.blk,0,none⟩))).setCell ⟨g,k * 3+1,none⟩ (.int .i64 (x.pos:Int))).setCell ⟨g,k * 3+2,none⟩ (.string (S x.txt))) g (cur.set k x) rest:=by
 have hl:(waitsL cur).length=cur.length * 3:=waitsL_length cur
 refine (heap_setCell_same _ g (k * 3+2) _ _ _ (heap_setCell_same _ g (k * 3+1) _ _ _ (heap_setCell_same w g (k * 3) _ _ _ h))).trans ?_
 rw [← waitsL_set cur k x hk]
 simp only [List.setIfInBounds_toArray]
 congr 3
 rw [List.set_append_left _ _ (by omega),List.set_append_left _ _ (by rw [List.length_set]; omega),List.set_append_left _ _ (by rw [List.length_set,List.length_set]; omega)]
theorem clear_writes {w:World} {g:Nat} {cur:List WriteD} {rest:List Value} (h:Row3 w g cur rest) (i:Nat) (hi:i≤cur.length) (c:Nat) (ty:TypeId) :
 ∃ w',(Builtin.clear_ #[76] ty #[.slice (some ⟨g,i * 3,none⟩) (cur.length - i) c]).run Tryz.prog w=.ok (.tuple #[]) w'∧(∃ cs,w'.heap[g]?=some (.cells cs 281 (0,0))∧cs.size=(waitsL cur++rest).length∧cs.toList.take (i * 3)=waitsL (cur.take i))∧Mod (fun k=>k=g) w w':=by
 have hl:(waitsL cur).length=cur.length * 3:=waitsL_length cur
 have htk:∀ (rest:List Value),(waitsL cur++rest).take (i * 3)=waitsL (cur.take i):=by
  intro rest
  have h1:waitsL cur=waitsL (cur.take i)++waitsL (cur.drop i):=by rw [← waitsL_app,List.take_append_drop]
  have h2:(waitsL (cur.take i)).length=i * 3:=by rw [waitsL_length,List.length_take]; omega
  rw [h1,List.append_assoc]
  rw [← h2]; exact List.take_left
 have hu:=Tryz.underlying76
 by_cases h0:cur.length - i=0
 · refine ⟨w,?_,⟨_,h,by simp,by rw [List.toList_toArray]; exact htk rest⟩,Mod.refl _ _⟩
   rw [h0]
   simp [Builtin.clear_,run_underlying hu]
 ·
  obtain ⟨i0,hi0,hz0⟩:∃ i,Tryz.prog.info? 281=some i∧i.zero=some (.agg #[.pointer none,.int .i64 0,.string ⟨#[]⟩]):=by
   have:=(show (Tryz.prog.info? 281).map (fun i=>i.zero)=some (some (.agg #[.pointer none,.int .i64 0,.string ⟨#[]⟩])) by kernel_rfl)
   cases hh:Tryz.prog.info? 281 with
   | none=>rw [hh] at this; cases this
   | some i=>rw [hh] at this; exact ⟨i,rfl,Option.some.inj this⟩
  have hzs:(Builtin.zeroCells #[.pointer none,.int .i64 0,.string ⟨#[]⟩] (cur.length - i)).toList.length=(cur.length - i) * 3:=by
   rw [Array.length_toList,size_zeroCells]; rfl
  have hone:∀ v∈(Builtin.zeroCells #[.pointer none,.int .i64 0,.string ⟨#[]⟩] (cur.length - i)).toList,v.oneCell'=true:=by
   intro v hv
   simp only [Builtin.zeroCells,Array.toList_map,List.mem_map] at hv
   obtain ⟨j,_,rfl⟩:=hv
   have:j % 3 < 3:=Nat.mod_lt _ (by omega)
   show Value.oneCell' (#[Value.pointer none,.int .i64 0,.string ⟨#[]⟩][j % 3]!)=true
   match j % 3,this with
   | 0,_=>rfl
   | 1,_=>rfl
   | 2,_=>rfl
  have hst:=run_storeCells_at (P:=Tryz.prog) g (i * 3) 281 _ 0 _ w h (by rw [hzs]; simp; omega) hone
  have hcl:(Value.agg #[.pointer none,.int .i64 0,.string ⟨#[]⟩]).cells=#[.pointer none,.int .i64 0,.string ⟨#[]⟩]:=rfl
  rw [List.toList_toArray,Nat.add_zero,hzs] at hst
  generalize hZ:(Builtin.zeroCells #[.pointer none,.int .i64 0,.string ⟨#[]⟩] (cur.length - i)).toList=Z at *
  obtain ⟨A,hA⟩:∃ A,(((waitsL cur++rest).take (i * 3))++Z++((waitsL cur++rest).drop (i * 3+(cur.length - i) * 3))).toArray=A:=⟨_,rfl⟩
  rw [hA] at hst
  have hAs:A.size=(waitsL cur++rest).length:=by
   rw [← hA,List.size_toArray]
   simp only [List.length_append,List.length_take,List.length_drop,hzs]
   omega
  have hAt:A.toList.take (i * 3)=waitsL (cur.take i):=by
   rw [← hA,List.toList_toArray,List.append_assoc,List.take_append_of_le_length (by rw [List.length_take]; simp; omega),List.take_take,Nat.min_self]
   exact htk rest
  refine ⟨w.setRow g A,?_,⟨A,setRow_heap w g _ _ _ _ h,hAs,hAt⟩,⟨rfl,rfl,rfl,by simp,fun k _ hk=>setRow_other w g k _ hk⟩⟩
  obtain ⟨m,hm⟩:∃ m,cur.length - i=m+1:=⟨cur.length - i - 1,by omega⟩
  rw [hm] at hZ ⊢
  simp [Builtin.clear_,run_underlying hu,zeroValue,typeInfo,hi0,hz0,Result.andThen,hcl,hZ,hst]
end Go.Proofs.YtnoehodmmkioaaaGreatDoor.DskW
