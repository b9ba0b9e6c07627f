/- Small words for walks: a world that was only drawn from; the end of a call that hands back a number. And what follows. -/
import Derived.WalkKit
import Derived.WalkSpells
import Derived.WalkLawsBesides
import Derived.Lib.Hide
import Derived.Lib.IndexBytes
import Derived.Deep.QuietTactic
import Derived.BigQuiet
import Derived.Deep.RegionWith
import Derived.Deep.DeepMust
import Derived.BigRegion
import Derived.KernelRfl
import Derived.Lib.ConvBytes
import Derived.Laws.MakeOwn
import Derived.Test.YtnoehodmmkioaaaGreatDoorProg
import Derived.Shelf.Strings.Builder1
import Derived.Shelf.GgClosure.StringsIndexFunc
import Derived.Lib.AtoiAll
import Derived.Lib.ItoaNum
import Derived.Lib.Strings
import Derived.Lib.Repeat
import Derived.Lib.SlTrimSet
set_option maxHeartbeats 25600000
set_option maxRecDepth 100000
set_option linter.unusedVariables false
set_option linter.unusedSimpArgs false
namespace Go.Proofs.YtnoehodmmkioaaaGreatDoor
open Go.RowKit
theorem ret_int {k:IntKind} {a b:Int} (h:a=b):Ending.returned (.int k a)=Ending.returned (.int k b):=by rw [h]
theorem ret_str {a b:ByteArray} (h:a=b):Ending.returned (.string a)=Ending.returned (.string b):=by rw [h]
theorem ret_bool {a b:Bool} (h:a=b):Ending.returned (.bool a)=Ending.returned (.bool b):=by rw [h]
def Drawn (W w:World):Prop:=∃ n,w=W.drewN n
theorem Drawn.refl (W:World):Drawn W W:=⟨0,rfl⟩
theorem Drawn.drewN {W w:World} (h:Drawn W w) (n:Nat):Drawn W (w.drewN n):=by obtain ⟨m,rfl⟩:=h; exact ⟨m+n,World.drewN_drewN ..⟩
theorem Drawn.drew {W w:World} (h:Drawn W w):Drawn W w.drew:=h.drewN 1
theorem Drawn.trans {W w u:World} (h:Drawn W w) (k:Drawn w u):Drawn W u:=by obtain ⟨m,rfl⟩:=k; exact h.drewN m
theorem Drawn.cell {W w:World} (h:Drawn W w) (a:Addr):w.cell? a=W.cell? a:=by obtain ⟨m,rfl⟩:=h; rfl
theorem Drawn.heap {W w:World} (h:Drawn W w):w.heap=W.heap:=by obtain ⟨m,rfl⟩:=h; rfl
theorem Drawn.below {W w:World} (h:Drawn W w) (B:Nat):Below B W w:=by obtain ⟨m,rfl⟩:=h; exact below_drewN (Below.refl _ _) m
theorem quiet_drawn {P:Program} {f:FuncId} {args:Array Value} {w:World} {n:Nat} {v:Value}
 (h:Calls P f args (w.drewN n) fun e w'=>e=.returned v∧Drawn (w.drewN n) w'):Calls P f args (w.drewN n) fun e w''=>e=.returned v∧∃ m,w''=w.drewN m :=
 h.mono fun _ _ ⟨he,hm⟩=>⟨he,Drawn.trans ⟨n,rfl⟩ hm⟩
theorem quiet_same {P:Program} {f:FuncId} {args:Array Value} {w:World} {n:Nat} {v:Value}
 (h:Calls P f args (w.drewN n) fun e w'=>e=.returned v∧w.drewN n=w'):Calls P f args (w.drewN n) fun e w''=>e=.returned v∧∃ m,w''=w.drewN m :=
 h.mono fun _ _ ⟨he,hm⟩=>⟨he,n,hm.symm⟩
theorem cell_lt {w:World} {a:Addr} {v:Value} (h:w.cell? a=some v):a.block < w.heap.size:=by
 unfold World.cell? at h
 rcases Nat.lt_or_ge a.block w.heap.size with hl | hl
 · exact hl
 · rw [Array.getElem?_eq_none hl] at h; cases h
theorem cell_spot {w:World} {a:Addr} {v:Value} (h:w.cell? a=some v):a.spot=none:=by
 unfold World.cell? at h
 split at h
 ·
  split at h
  · cases h
  · cases hs:a.spot with
    | none=>rfl
    | some x=>simp [hs] at *
 · cases h
def Strs (w:World) (a:Option Addr) (ss:List ByteArray):Prop:=∀ i (h:i < ss.length),∃ b off,a=some ⟨b,off,none⟩∧w.cell? ⟨b,off+i,none⟩=some (.string ss[i])
theorem Strs.below {W w:World} {a:Option Addr} {ss:List ByteArray} (h:Strs W a ss) (hb:Below W.heap.size W w):Strs w a ss:=by
 intro i hi
 obtain ⟨b,off,rfl,hc⟩:=h i hi
 exact ⟨b,off,rfl,by rw [hb.cell (cell_lt hc)]; exact hc⟩
theorem Strs.of_cells {w:World} {a:Addr} {ss:List ByteArray} (h:∀ i (hi:i < ss.length),w.cell? (a.add i)=some (.string ss[i])):Strs w (some a) ss:=by
 intro i hi
 have h0:=h 0 (by omega)
 have hs:a.spot=none:=by
  have:a.add 0=a:=by unfold Addr.add; rw [if_pos rfl]
  rw [this] at h0; exact cell_spot h0
 refine ⟨a.block,a.off,by cases a; simp_all,?_⟩
 have:=h i hi
 have ha:a.add i=⟨a.block,a.off+i,none⟩:=by
  unfold Addr.add
  split
  · rename_i e; subst e; cases a; simp_all
  · cases a; simp_all
 rw [← ha]; exact this
theorem bytes_string {P:Program} (w:World) (src e dst:TypeId) (hs:P.underlying src=some (.slice e)) (he:P.underlying e=some (.int .u8)) (hd:P.underlying dst=some .string)
 (b off cap:Nat) (l:List UInt8) (hcell:∀ i (h:i < l.length),w.cell? ⟨b,off+i,none⟩=some (.int .u8 l[i].toNat)) (n:Nat) (hn:n=l.length) :
 (convert src dst (.slice (some ⟨b,off,none⟩) n cap)).run P w=.ok (.string ⟨l.toArray⟩) w:=by
 subst hn
 have:=run_convert_bytes_arg (P:=P) w src e hs he b off l.length cap (l.map fun c=>(c.toNat:Int)) (by simp) (fun i hi=>by
  rw [hcell i hi]; simp [List.getD,List.getElem?_eq_getElem hi]) dst hd
 rw [this]
 unfold strOfNums
 congr 3
 simp
 exact (List.map_congr_left (fun c _=>by simp)).trans (List.map_id l)
theorem string_bytes {P:Program} (w:World) (src dst e:TypeId) (s:ByteArray) (hs:P.underlying src=some .string) (hd:P.underlying dst=some (.slice e)) (he:P.underlying e=some (.int .u8)) :
 ∃ c w',(convert src dst (.string s)).run P w=.ok (.slice (some ⟨w.heap.size,0,none⟩) s.size c) w'∧Below w.heap.size w w'∧w'.heap.size=w.heap.size+1∧s.size≤c ∧
  (∀ j (hj:j < s.size),w'.cell? ⟨w.heap.size,j,none⟩=some (.int .u8 (s[j].toNat:Int)))∧∀ j,j < s.size→w'.frozen? ⟨w.heap.size,j,none⟩=false:=by
 refine ⟨_,_,Lib.run_convert_string_bytes w src dst e s hs hd he,⟨?_,?_,?_,?_,?_⟩,Lib.bytesWorld_size w e s,?_,?_,?_⟩
 iterate 3
  · simp [Lib.bytesWorld,World.freeze,World.alloc,World.drew,-World.alloc_eq,-World.drew_eq]
 · rw [Lib.bytesWorld_size]; omega
 · intro k hk; exact Lib.bytesWorld_at_old w e s k hk
 · unfold grownCap; exact Nat.le_add_right _ _
 ·
  intro j hj
  rw [Lib.bytesWorld_cell w e s j hj]
  simp [List.getD,hj]
  rfl
 ·
  intro j hj
  have hC:s.size≤(Lib.bytesCells w e s).size:=by unfold Lib.bytesCells; rw [Array.size_append,Array.size_map]; exact Nat.le_add_right _ _
  unfold World.frozen?
  rw [Lib.bytesWorld_at_new]
  simp; omega
structure Row (g:Nat) (l:List UInt8) (w:World):Prop where
 lt:g < w.heap.size
 cell:∀ j (h:j < l.length),w.cell? ⟨g,j,none⟩=some (.int .u8 (l[j].toNat:Int))
 free:∀ j,j < l.length→w.frozen? ⟨g,j,none⟩=false
theorem Row.set {g:Nat} {l:List UInt8} {w:World} (h:Row g l w) (k:Nat) (hk:k < l.length) (v:UInt8):Row g (l.set k v) (w.setCell ⟨g,k,none⟩ (.int .u8 (v.toNat:Int))):=by
 refine ⟨by simpa using h.lt,fun j hj=>?_,fun j hj=>?_⟩
 ·
  have hj':j < l.length:=by simpa using hj
  by_cases e:k=j
  · subst e
    rw [World.cell?_setCell_same _ _ _ (h.cell k hk)]; simp
  · rw [World.cell?_setCell_other _ _ _ _ (fun h=>e (congrArg Addr.off h)),h.cell j hj']
    simp [e]
 · rw [World.frozen?_setCell]; exact h.free j (by simpa using hj)
def zeros (n:Nat):Array Value:=madeCells #[.int .u8 0] n
theorem run_make_bytes {P:Program} (w:World) (t e:TypeId) (i:TypeInfo) (ht:P.underlying t=some (.slice e)) (hi:P.info? e=some i) (hz:i.zero=some (.int .u8 0)) (hs:i.size=1) (hb:i.bytes=1) (n:Nat) (hn:n≤1048576) :
 (Instr.makeSlice t (.int .i64 (n:Int)) (.int .i64 (n:Int))).run P w=.ok (.slice (some ⟨w.heap.size,0,none⟩) n n) (w.alloc (.cells (zeros n) e)):=by
 have h:=run_make w t e i _ ht hi hz .i64 .i64 (n:Int) (n:Int) (by omega) (Int.le_refl _) (by rw [hb]; omega) (by omega)
 rw [hs] at h
 simpa [zeros,Value.cells] using h
theorem row_zeros (w:World) (e:TypeId) (n:Nat):Row w.heap.size (List.replicate n 0) (w.alloc (.cells (zeros n) e)):=by
 refine ⟨by simp,fun j hj=>?_,fun j hj=>?_⟩
 ·
  have hj':j < n:=by simpa using hj
  rw [World.cell?_alloc_new]
  unfold zeros madeCells
  simp [hj']
  simp [Nat.mod_one]
 ·
  unfold World.frozen?
  have:(w.alloc (.cells (zeros n) e)).heap[w.heap.size]?=some (.cells (zeros n) e):=heap_alloc_new w _
  simp only [this]
  simp
theorem row_string {P:Program} {g:Nat} {l:List UInt8} {w:World} (h:Row g l w) (src e dst:TypeId) (hs:P.underlying src=some (.slice e)) (he:P.underlying e=some (.int .u8)) (hd:P.underlying dst=some .string)
 (cap n:Nat) (hn:n=l.length):(convert src dst (.slice (some ⟨g,0,none⟩) n cap)).run P w=.ok (.string ⟨l.toArray⟩) w :=
 bytes_string (P:=P) w src e dst hs he hd g 0 cap l (fun j hj=>by rw [Nat.zero_add]; exact h.cell j hj) n hn
structure Mod (M:Nat→Prop) (w w':World):Prop where
 os:w'.os=w.os
 tape:w'.tape=w.tape
 output:w'.output=w.output
 size:w.heap.size≤w'.heap.size
 block:∀ k,k < w.heap.size→¬ M k→w'.heap[k]?=w.heap[k]?
theorem Mod.refl (M:Nat→Prop) (w:World):Mod M w w:=⟨rfl,rfl,rfl,Nat.le_refl _,fun _ _ _=>rfl⟩
theorem Mod.trans {M:Nat→Prop} {u v w:World} (h:Mod M u v) (k:Mod M v w):Mod M u w :=
 ⟨k.os.trans h.os,k.tape.trans h.tape,k.output.trans h.output,Nat.le_trans h.size k.size,fun i hi hM=>(k.block i (Nat.lt_of_lt_of_le hi h.size) hM).trans (h.block i hi hM)⟩
theorem Mod.mono {M N:Nat→Prop} {u v:World} (h:Mod M u v) (hMN:∀ k,k < u.heap.size→M k→N k):Mod N u v :=
 ⟨h.os,h.tape,h.output,h.size,fun i hi hN=>h.block i hi fun hM=>hN (hMN i hi hM)⟩
theorem Mod.of_below {M:Nat→Prop} {u v:World} (h:Below u.heap.size u v):Mod M u v:=⟨h.os,h.tape,h.output,h.size,fun i hi _=>h.block i hi⟩
theorem Mod.to_below {M:Nat→Prop} {u v:World} (h:Mod M u v) (B:Nat) (hB:B≤u.heap.size) (hM:∀ k,M k→B≤k):Below B u v :=
 ⟨h.os,h.tape,h.output,h.size,fun k hk=>h.block k (by omega) fun hm=>by have:=hM k hm; omega⟩
theorem Mod.drew {M:Nat→Prop} {u v:World} (h:Mod M u v):Mod M u v.drew:=⟨h.os,h.tape,h.output,h.size,h.block⟩
theorem Mod.drawn {M:Nat→Prop} {u v w:World} (h:Mod M u v) (k:Drawn v w):Mod M u w:=by obtain ⟨n,rfl⟩:=k; exact ⟨h.os,h.tape,h.output,h.size,h.block⟩
theorem Mod.alloc {M:Nat→Prop} {u v:World} (h:Mod M u v) (o:Obj):Mod M u (v.alloc o) :=
 h.trans (Mod.of_below ((Below.refl _ _).alloc (Nat.le_refl _) _))
theorem Mod.setCell {M:Nat→Prop} {u v:World} (h:Mod M u v) {a:Addr} (ha:M a.block∨u.heap.size≤a.block) (x:Value):Mod M u (v.setCell a x):=by
 refine ⟨h.os,h.tape,h.output,by simpa using h.size,fun k hk hM=>?_⟩
 rw [Below.heap_setCell _ _ _ _ (fun e=>by subst e; rcases ha with ha | ha; exact hM ha; omega)]
 exact h.block k hk hM
theorem Mod.cell {M:Nat→Prop} {w w':World} (h:Mod M w w') {p:Addr} (hp:p.block < w.heap.size) (hM:¬ M p.block):w'.cell? p=w.cell? p:=World.cell?_of_block (w:=w) (h.block p.block hp hM)
end Go.Proofs.YtnoehodmmkioaaaGreatDoor
namespace Go.Proofs.YtnoehodmmkioaaaGreatDoor.OctMath
def S (l:List UInt8):ByteArray:=⟨l.toArray⟩
theorem S_size (l:List UInt8):(S l).size=l.length:=by show l.toArray.size=_; simp
theorem S_list (l:List UInt8):(S l).data.toList=l:=by simp [S]
theorem S_of (s:ByteArray):S s.data.toList=s:=by cases s; simp [S]
theorem S_append (a b:List UInt8):S a++S b=S (a++b):=by
 apply ByteArray.ext; simp [S]
theorem S_inj {a b:List UInt8} (h:S a=S b):a=b:=by rw [← S_list a,h,S_list]
theorem S_drop (l:List UInt8) (a:Nat):(S l).extract a (S l).size=S (l.drop a):=by
 apply ByteArray.ext
 apply Array.ext'
 rw [S_size]
 simp [S,ByteArray.data_extract]
 exact List.take_of_length_le (by simp)
theorem S_take (l:List UInt8) (b:Nat):(S l).extract 0 b=S (l.take b):=by
 apply ByteArray.ext
 apply Array.ext'
 simp [S,ByteArray.data_extract]
def be:Nat→Nat→List UInt8
 | 0,_=>[]
 | k+1,x=>UInt8.ofNat (x / 256 ^ k) :: be k x
theorem be_length (k x:Nat):(be k x).length=k:=by
 induction k with
 | zero=>rfl
 | succ k ih=>simp [be,ih]
def val (l:List UInt8):Nat:=l.foldl (fun x c=>256 * x+c.toNat) 0
theorem val_from (l:List UInt8) (x:Nat):l.foldl (fun x c=>256 * x+c.toNat) x=x * 256 ^ l.length+val l:=by
 unfold val
 induction l generalizing x with
 | nil=>simp
 | cons c l ih =>
   simp only [List.foldl_cons,List.length_cons]
   rw [ih,ih (256 * 0+c.toNat),Nat.pow_succ]
   rw [Nat.add_mul,Nat.mul_zero,Nat.zero_add,Nat.mul_comm 256 x,Nat.mul_assoc,Nat.mul_comm 256,Nat.add_assoc]
theorem val_cons (c:UInt8) (l:List UInt8):val (c :: l)=c.toNat * 256 ^ l.length+val l:=by
 show l.foldl _ (256 * 0+c.toNat)=_
 rw [val_from]; simp
theorem val_snoc (l:List UInt8) (c:UInt8):val (l++[c])=256 * val l+c.toNat:=by
 unfold val; rw [List.foldl_append]; rfl
theorem val_lt (l:List UInt8):val l < 256 ^ l.length:=by
 induction l with
 | nil=>simp [val]
 | cons c l ih =>
   rw [val_cons,List.length_cons,Nat.pow_succ]
   have h:=c.toNat_lt
   have h2:c.toNat * 256 ^ l.length≤255 * 256 ^ l.length:=Nat.mul_le_mul_right _ (by omega)
   omega
theorem val_be (k x:Nat):val (be k x)=x % 256 ^ k:=by
 induction k with
 | zero=>simp [be,val,Nat.mod_one]
 | succ k ih =>
   simp only [be]
   rw [val_cons,ih,be_length,UInt8.toNat_ofNat',show 2 ^ 8=256 from rfl,Nat.pow_succ,Nat.mod_mul (x:=x) (a:=256 ^ k) (b:=256),Nat.add_comm,Nat.mul_comm (256 ^ k)]
structure RS where
 s:List UInt8
 e:Nat
def takeR (n:Int) (r:RS):List UInt8×RS :=
 if r.e≠0 then ([],r) else if n < 0 then ([],⟨r.s,1⟩) else if (r.s.length:Int) < n then ([],⟨r.s,3⟩) else (r.s.take n.toNat,⟨r.s.drop n.toNat,0⟩)
def numR (n:Int) (r:RS):Nat×RS :=
 if r.e≠0 then (0,r) else if n < 1∨7 < n then (0,⟨r.s,1⟩) else (val (takeR n r).1,(takeR n r).2)
def longR (b:Bool) (r:RS):RS:=if r.e=0∧b=true then ⟨r.s,6⟩ else r
def textR (most:Int) (r:RS):List UInt8×RS :=
 if r.e≠0 then ([],r) else
 let x:=numR 2 r
 let y:=takeR (x.1:Int) (longR (decide (most < (x.1:Int))) x.2)
 if y.2.e≠0 then (y.1,⟨r.s,y.2.e⟩) else y
def textsR (most:Int):Nat→RS→List (List UInt8)×RS
 | 0,r=>([],r)
 | n+1,r=>((textR most r).1 :: (textsR most n (textR most r).2).1,(textsR most n (textR most r).2).2)
def listR (many most:Int) (r:RS):List (List UInt8)×RS :=
 if r.e≠0 then ([],r) else
 let x:=numR 1 r
 let y:=textsR most x.1 (longR (decide (many < (x.1:Int))) x.2)
 if y.2.e≠0 then ([],⟨r.s,y.2.e⟩) else y
def endR (r:RS):Nat:=if r.e≠0 then r.e else if r.s.length=0 then 0 else 4
end Go.Proofs.YtnoehodmmkioaaaGreatDoor.OctMath
namespace Go.Proofs.YtnoehodmmkioaaaGreatDoor.OctW
open Go.RowKit OctMath
theorem set_be (n k x:Nat) (h:k < n):(List.replicate (n - k) (0:UInt8)++be k x).set (n - 1 - k) (UInt8.ofNat (x / 256 ^ k))=List.replicate (n - (k+1)) 0++be (k+1) x:=by
 rw [show n - k=(n - (k+1))+1 by omega,List.replicate_succ',show n - 1 - k=n - (k+1) by omega,List.append_assoc,List.set_append_right _ _ (by simp)]
 simp [be]
theorem put_any (n x:Nat) (hn:n≤1048576) (hx:x≤9223372036854775807) (W:World) :
 Calls Tryz.prog 158 #[.int .i64 (n:Int),.int .i64 (x:Int)] W fun e w'=>e=.returned (.string (S (be n x)))∧Below W.heap.size W w':=by
 obtain ⟨i0,hi,hz0,hz1,hz2⟩:=info_parts (show (Tryz.prog.info? 5).map (fun i=>(i.zero,i.size,i.bytes))=some (some (.int .u8 0),1,1) by kernel_rfl)
 have hrun:=run_make_bytes (P:=Tryz.prog) W 218 5 i0 Tryz.underlying218 hi hz0 hz1 hz2 n hn
 have hrow:=row_zeros W 5 n
 have hmod:Mod (fun k=>k=W.heap.size) W (W.alloc (.cells (zeros n) 5)):=(Mod.refl _ W).alloc _
 have hsz:W.heap.size < (W.alloc (.cells (zeros n) 5)).heap.size:=by simp
 have HRUN:=Lib.hid hrun; clear hrun
 go_enter Tryz.func158,Tryz.ntmps158
 go_wp2_with fail
 rw [HRUN.out]
 clear HRUN hi hz0 hz1 hz2
 generalize W.alloc (.cells (zeros n) 5)=W0 at *
 generalize hg:W.heap.size=g at *
 have HG:=Lib.hid hg; clear hg
 have HROW:=Lib.hid hrow; clear hrow
 have HM:=Lib.hid hmod; clear hmod
 clear hsz
 go_wp2_with fail
 go_loopw [1,11] (fun y i wr=>∃ k z:Nat,k≤n∧i=.int .i64 k∧y=.int .i64 z∧z≤9223372036854775807∧Hid (z=x / 256 ^ k)∧Hid (Row g (List.replicate (n - k) 0++be k x) wr)∧Hid (Mod (fun k=>k=g) W wr)) (fun _ i _=>n - (intOf i).toNat)
 case atStart=>exact ⟨0,x,by omega,rfl,rfl,hx,by simp [Hid],by simpa [Hid,be] using HROW.out,HM⟩
 case round =>
  clear HROW HM
  obtain ⟨k,z,hk,rfl,rfl,hz,HZ,HR,HM⟩:=hrel
  by_cases hlt:k < n
  ·
   have hlen:n - 1 - k < (List.replicate (n - k) (0:UInt8)++be k x).length:=by simp [be_length]; omega
   have hset:=HR.out.set (n - 1 - k) hlen (UInt8.ofNat z)
   rw [HZ.out,set_be n k x hlt,← HZ.out] at hset
   have hmod:=HM.out.setCell (a:=⟨g,n - 1 - k,none⟩) (Or.inl rfl) (.int .u8 ((UInt8.ofNat z).toNat:Int))
   have hcell:=HR.out.cell (n - 1 - k) hlen
   have hfree:=HR.out.free (n - 1 - k) hlen
   have hc:((UInt8.ofNat z).toNat:Int)=(z:Int) % 256:=by simp
   rw [hc] at hset hmod
   have HS:=Lib.hid hset
   have HM2:=Lib.hid hmod
   clear hset hmod hc HR HM
   generalize hL:((List.replicate (n - k) (0:UInt8)++be k x)[n - 1 - k]).toNat=L at *
   clear hL
   go_wp2_with fail
   go_roundw
   case rel =>
    refine ⟨k+1,z / 256,by omega,by go_num,by go_num,by omega,?_,HS,HM2⟩
    show z / 256=x / 256 ^ (k+1)
    rw [HZ.out,Nat.div_div_eq_div_mul,Nat.pow_succ]
   case measure=>simp [intOf]; omega
  ·
   have e:k=n:=by omega
   have hrow:=HR.out
   rw [e,Nat.sub_self,List.replicate_zero,List.nil_append] at hrow
   have hstr:=row_string (P:=Tryz.prog) hrow 218 5 9 Tryz.underlying218 Tryz.underlying5 Tryz.underlying9 n n (by rw [be_length])
   have HSTR:=Lib.hid hstr
   clear hstr hrow HR
   go_wp2_with fail
   rw [HSTR.out]
   go_wp2_with fail
   go_ret
   exact ⟨rfl,HM.out.to_below _ (Nat.le_refl _) (fun k hk=>by rw [hk,HG.out]; exact Nat.le_refl _)⟩
theorem or_low (a:Nat) (c:UInt8) (ha:a < 256 ^ 6):bits .or .i64 ((a:Int) * 256) (wrap64 (c.toNat:Int))=((256 * a+c.toNat:Nat):Int):=by
 have hc:=c.toNat_lt
 rw [IntWalk.wrap64_in _ (by omega),show (a:Int) * 256=((256 * a:Nat):Int) by omega]
 have h1:(BitVec.ofInt 64 ((256 * a:Nat):Int)).toNat=256 * a:=by
  rw [BitVec.ofInt_natCast,BitVec.toNat_ofNat]; exact Nat.mod_eq_of_lt (by omega)
 have h2:(BitVec.ofInt 64 ((c.toNat:Nat):Int)).toNat=c.toNat:=by
  rw [BitVec.ofInt_natCast,BitVec.toNat_ofNat]; exact Nat.mod_eq_of_lt (by omega)
 have h3:2 ^ 8 * a+c.toNat=2 ^ 8 * a ||| c.toNat:=Nat.two_pow_add_eq_or_of_lt (i:=8) (by omega) a
 show IntKind.i64.wrap ((BitVec.ofInt 64 ((256 * a:Nat):Int) ||| BitVec.ofInt 64 ((c.toNat:Nat):Int)).toNat:Int)=_
 rw [BitVec.toNat_or,h1,h2,show 256 * a ||| c.toNat=256 * a+c.toNat from h3.symm]
 rw [IntKind.wrap_i64]; omega
theorem get_any (l:List UInt8) (hn:l.length≤7) (W:World) :
 Calls Tryz.prog 182 #[.string (S l)] W fun e w'=>e=.returned (.int .i64 (val l:Int))∧Drawn W w':=by
 have hsz:(S l).size=l.length:=S_size l
 go_enter Tryz.func182,Tryz.ntmps182
 go_wp2_with fail
 go_loopw [3,7] (fun y i wr=>∃ k:Nat,k≤l.length∧i=.int .i64 k∧y=.int .i64 (val (l.take k):Int)∧Hid (Drawn W wr)) (fun _ i _=>l.length - (intOf i).toNat)
 case atStart=>exact ⟨0,by omega,rfl,rfl,Drawn.refl _⟩
 case round =>
  obtain ⟨k,hk,rfl,rfl,HD⟩:=hrel
  by_cases hlt:k < l.length
  ·
   have hv:val (l.take k) < 256 ^ 6:=by
    refine Nat.lt_of_lt_of_le (val_lt _) (Nat.pow_le_pow_right (by omega) ?_)
    simp; omega
   have hstep:val (l.take (k+1))=256 * val (l.take k)+l[k].toNat:=by
    rw [List.take_succ_eq_append_getElem hlt,val_snoc]
   have hi:k < (S l).size:=by rw [hsz]; exact hlt
   have hget:(S l)[k]=l[k]:=by simp only [S]; rfl
   generalize hC:l[k]=c at *
   clear hC
   generalize hV:val (l.take k)=V at *
   have HV:=Lib.hid hV; clear hV
   have HST:=Lib.hid hstep; clear hstep
   go_wp2_with fail
   rw [or_low V c hv]
   go_roundw
   case rel=>exact ⟨k+1,by omega,by go_num,by rw [HST.out],HD⟩
   case measure=>simp [intOf]; omega
  ·
   have e:k=l.length:=by omega
   have ev:val (l.take k)=val l:=by rw [e,List.take_length]
   generalize val (l.take k)=V at *
   have HV:=Lib.hid ev; clear ev
   go_wp2_with fail
   go_ret
   exact ⟨ret_int (by rw [HV.out]),HD.out⟩
theorem heap_setCell_own {w:World} {B:Nat} {cs:Array Value} {T:TypeId} {f:Nat×Nat} (h:w.heap[B]?=some (.cells cs T f)) (k:Nat) (v:Value) :
 (w.setCell ⟨B,k,none⟩ v).heap[B]?=some (.cells (cs.setIfInBounds k v) T f):=by
 simp only [World.setCell,Array.getElem?_modify]
 simp [h]
def Rd (B:Nat) (r:RS) (w:World):Prop:=w.heap[B]?=some (.cells #[.string (S r.s),.int .i64 (r.e:Int)] 277 (0,0))
theorem Rd.s_cell {B:Nat} {r:RS} {w:World} (h:Rd B r w):w.cell? ⟨B,0,none⟩=some (.string (S r.s)):=by unfold World.cell?; rw [show w.heap[(⟨B,0,none⟩:Addr).block]?=_ from h]; rfl
theorem Rd.e_cell {B:Nat} {r:RS} {w:World} (h:Rd B r w):w.cell? ⟨B,1,none⟩=some (.int .i64 (r.e:Int)):=by unfold World.cell?; rw [show w.heap[(⟨B,1,none⟩:Addr).block]?=_ from h]; rfl
theorem Rd.s_free {B:Nat} {r:RS} {w:World} (h:Rd B r w):w.frozen? ⟨B,0,none⟩=false:=by unfold World.frozen?; rw [show w.heap[(⟨B,0,none⟩:Addr).block]?=_ from h]; rfl
theorem Rd.e_free {B:Nat} {r:RS} {w:World} (h:Rd B r w):w.frozen? ⟨B,1,none⟩=false:=by unfold World.frozen?; rw [show w.heap[(⟨B,1,none⟩:Addr).block]?=_ from h]; rfl
theorem Rd.lt {B:Nat} {r:RS} {w:World} (h:Rd B r w):B < w.heap.size:=(Array.getElem?_eq_some_iff.1 h).1
theorem Rd.set0 {B:Nat} {r:RS} {w:World} (h:Rd B r w) (s:List UInt8):Rd B ⟨s,r.e⟩ (w.setCell ⟨B,0,none⟩ (.string (S s))):=heap_setCell_own h 0 _
theorem Rd.set1 {B:Nat} {r:RS} {w:World} (h:Rd B r w) (e:Nat):Rd B ⟨r.s,e⟩ (w.setCell ⟨B,1,none⟩ (.int .i64 (e:Int))):=heap_setCell_own h 1 _
theorem Rd.mod {M:Nat→Prop} {B:Nat} {r:RS} {w w':World} (h:Rd B r w) (hm:Mod M w w') (hB:¬ M B):Rd B r w':=(hm.block B h.lt hB).trans h
theorem Rd.drawn {B:Nat} {r:RS} {w w':World} (h:Rd B r w) (hd:Drawn w w'):Rd B r w':=by obtain ⟨n,rfl⟩:=hd; exact h
abbrev One (B:Nat) (w w':World):Prop:=Mod (fun k=>k=B) w w'
theorem err_any (B:Nat) (r:RS) (w:World) (h:Rd B r w):Calls Tryz.prog 179 #[.pointer (some ⟨B,0,none⟩)] w fun e w'=>e=.returned (.int .i64 (r.e:Int))∧w=w':=by
 have he:=h.e_cell
 clear h
 go_enter Tryz.func179,Tryz.ntmps179
 go_wp2_with fail
 go_ret
 exact ⟨rfl,rfl⟩
theorem left_any (B:Nat) (r:RS) (w:World) (h:Rd B r w):Calls Tryz.prog 185 #[.pointer (some ⟨B,0,none⟩)] w fun e w'=>e=.returned (.int .i64 (r.s.length:Int))∧w=w':=by
 have he:=h.s_cell
 have hs:=S_size r.s
 clear h
 go_enter Tryz.func185,Tryz.ntmps185
 go_wp2_with fail
 go_ret
 exact ⟨rfl,rfl⟩
theorem new_any (l:List UInt8) (w:World):Calls Tryz.prog 118 #[.string (S l)] w fun e w'=>e=.returned (.pointer (some ⟨w.heap.size,0,none⟩))∧Rd w.heap.size ⟨l,0⟩ w'∧Below w.heap.size w w':=by
 go_enter Tryz.func118,Tryz.ntmps118
 go_wp2_with fail
 go_ret
 exact ⟨rfl,heap_alloc_new _ _,(Below.refl _ w).alloc (Nat.le_refl _) _⟩
theorem fails_any (B:Nat) (r:RS) (w:World) (h:Rd B r w) (k:Nat) (s:List UInt8):Calls Tryz.prog 184 #[.pointer (some ⟨B,0,none⟩),.int .i64 (k:Int),.string (S s)] w fun e w'=>e=.returned (.tuple #[])∧Rd B ⟨s,k⟩ w'∧One B w w':=by
 have he:=h.e_cell
 have hs:=h.s_cell
 have hef:=h.e_free
 have hsf:=h.s_free
 have h2:=(h.set1 k).set0 s
 have hm:One B w ((w.setCell ⟨B,1,none⟩ (.int .i64 (k:Int))).setCell ⟨B,0,none⟩ (.string (S s))):=((Mod.refl (fun k=>k=B) w).setCell (a:=⟨B,1,none⟩) (Or.inl rfl) _).setCell (a:=⟨B,0,none⟩) (Or.inl rfl) _
 have h2:=Lib.hid h2
 have hm:=Lib.hid hm
 clear h
 go_enter Tryz.func184,Tryz.ntmps184
 go_wp2_with fail
 go_end0
 exact ⟨rfl,h2.out,hm.out⟩
theorem ne_b {e:Nat} (h:e≠0):((e:Int) != 0)=true:=by simp; omega
theorem eq_b {e:Nat} (h:e=0):((e:Int) != 0)=false:=by simp; omega
theorem eq_t {e:Nat} (h:e=0):((e:Int) == 0)=true:=by simp; omega
theorem eq_f {e:Nat} (h:¬ e=0):((e:Int) == 0)=false:=by simp; omega
theorem end_any (B:Nat) (r:RS) (w:World) (h:Rd B r w):Calls Tryz.prog 122 #[.pointer (some ⟨B,0,none⟩)] w fun e w'=>e=.returned (.int .i64 ((endR r:Nat):Int))∧w=w':=by
 have HR:=Lib.hid h; clear h
 go_enter Tryz.func122,Tryz.ntmps122
 go_wp2_with (go_at_call 179; refine (err_any B r _ HR.out).mono ?_)
 rintro e w' ⟨rfl,rfl⟩
 by_cases hz:r.e≠0
 ·
  have hb:=ne_b hz
  have HZ:=Lib.hid hz; clear hz
  go_wp2_with fail
  go_ret
  exact ⟨ret_int (by unfold endR; rw [if_pos HZ.out]),rfl⟩
 ·
  have hb:=eq_b (show r.e=0 by omega)
  have HZ:Hid (r.e=0):=by simp only [Hid]; omega
  clear hz
  generalize hE:r.e=en at *
  have HE:=Lib.hid hE; clear hE
  have HF:Hid (endR r=if r.s.length=0 then 0 else 4):=by unfold endR; rw [HE.out,if_neg (by rw [HZ.out]; simp)]; rfl
  go_wp2_with (go_at_call 185; refine (left_any B r _ HR.out).mono ?_)
  rintro e w' ⟨rfl,rfl⟩
  by_cases hl:r.s.length=0
  ·
   have hb2:=eq_t hl
   rw [if_pos hl] at HF
   generalize r.s.length=ln at *
   clear hl
   go_wp2_with fail
   go_ret
   exact ⟨ret_int (by rw [HF.out,HZ.out]),rfl⟩
  ·
   have hb2:=eq_f hl
   rw [if_neg hl] at HF
   generalize r.s.length=ln at *
   clear hl
   go_wp2_with fail
   go_ret
   exact ⟨ret_int (by rw [HF.out]; rfl),rfl⟩
theorem take_any (B:Nat) (r:RS) (n:Int) (hn0 : -9223372036854775808≤n) (hn1:n≤9223372036854775807) (hl:r.s.length≤1152921504606846976) (w:World) (h:Rd B r w) :
 Calls Tryz.prog 183 #[.pointer (some ⟨B,0,none⟩),.int .i64 n] w fun e w'=>e=.returned (.string (S (takeR n r).1))∧Rd B (takeR n r).2 w'∧One B w w':=by
 have HR:=Lib.hid h
 have he:=h.e_cell
 have hs:=h.s_cell
 have hef:=h.e_free
 have hsf:=h.s_free
 have hsz:=S_size r.s
 go_enter Tryz.func183,Tryz.ntmps183
 go_wp2_with (go_at_call 179; refine (err_any B r _ HR.out).mono ?_)
 rintro e w' ⟨rfl,rfl⟩
 by_cases hz:r.e≠0
 ·
  have hb:=ne_b hz
  have HZ:=Lib.hid hz; clear hz
  go_wp2_with fail
  go_ret
  unfold takeR
  rw [if_pos HZ.out]
  exact ⟨rfl,HR.out,Mod.refl _ _⟩
 ·
  have hz0:r.e=0:=by omega
  have hb:=eq_b hz0
  have HZ:=Lib.hid hz; clear hz
  have HZ0:=Lib.hid hz0; clear hz0
  by_cases h0:n < 0
  ·
   have h2:=Lib.hid (h.set1 1)
   have hm:Hid (One B w (w.setCell ⟨B,1,none⟩ (.int .i64 ((1:Nat):Int)))):=(Mod.refl (fun k=>k=B) w).setCell (a:=⟨B,1,none⟩) (Or.inl rfl) _
   have HT:Hid (takeR n r=([],⟨r.s,1⟩)):=by unfold takeR; rw [if_neg HZ.out,if_pos h0]; rfl
   clear h
   go_wp2_with fail
   go_ret
   rw [HT.out]
   exact ⟨rfl,h2.out,hm.out⟩
  ·
   by_cases h3:(r.s.length:Int) < n
   ·
    have h2:=Lib.hid (h.set1 3)
    have hm:Hid (One B w (w.setCell ⟨B,1,none⟩ (.int .i64 ((3:Nat):Int)))):=(Mod.refl (fun k=>k=B) w).setCell (a:=⟨B,1,none⟩) (Or.inl rfl) _
    have HT:Hid (takeR n r=([],⟨r.s,3⟩)):=by unfold takeR; rw [if_neg HZ.out,if_neg h0,if_pos h3]; rfl
    clear h
    go_wp2_with fail
    go_ret
    rw [HT.out]
    exact ⟨rfl,h2.out,hm.out⟩
   ·
    obtain ⟨m,rfl⟩:∃ m:Nat,n=m:=⟨n.toNat,by omega⟩
    have hm1:m≤(S r.s).size:=by rw [hsz]; omega
    have h2:Hid (Rd B ⟨r.s.drop m,0⟩ (w.setCell ⟨B,0,none⟩ (.string (S (r.s.drop m))))):=by have:=h.set0 (r.s.drop m); rw [HZ0.out] at this; exact this
    have hm:Hid (One B w (w.setCell ⟨B,0,none⟩ (.string (S (r.s.drop m))))):=(Mod.refl (fun k=>k=B) w).setCell (a:=⟨B,0,none⟩) (Or.inl rfl) _
    have hd:Hid ((S r.s).extract m r.s.length=S (r.s.drop m)):=by have:=S_drop r.s m; rw [S_size] at this; exact this
    have hd2:Hid ((S r.s).extract 0 m=S (r.s.take m)):=S_take _ _
    have HT:Hid (takeR (m:Int) r=(r.s.take m,⟨r.s.drop m,0⟩)):=by unfold takeR; rw [if_neg HZ.out,if_neg h0,if_neg h3]; rfl
    clear h
    go_wp2_with fail
    rw [hd.out,hd2.out]
    go_ret
    rw [HT.out]
    exact ⟨rfl,h2.out,hm.out⟩
theorem takeR_len (n:Int) (r:RS):(takeR n r).2.s.length≤r.s.length:=by
 unfold takeR; split
 · exact Nat.le_refl _
 ·
  split
  · exact Nat.le_refl _
  · split
    · exact Nat.le_refl _
    · simp
theorem takeR_out (n:Int) (r:RS):(takeR n r).1.length≤n.toNat:=by
 unfold takeR; split
 · simp
 ·
  split
  · simp
  · split
    · simp
    · simp; omega
theorem numR_len (n:Int) (r:RS):(numR n r).2.s.length≤r.s.length:=by
 unfold numR; split
 · exact Nat.le_refl _
 · split
   · exact Nat.le_refl _
   · exact takeR_len _ _
theorem numR_lt (n:Int) (r:RS):(numR n r).1 < 256 ^ n.toNat:=by
 have hp:0 < 256 ^ n.toNat:=Nat.pow_pos (by omega)
 unfold numR; split
 · exact hp
 · split
   · exact hp
   · exact Nat.lt_of_lt_of_le (val_lt _) (Nat.pow_le_pow_right (by omega) (takeR_out n r))
theorem num_any (B:Nat) (r:RS) (n:Int) (hn0 : -9223372036854775808≤n) (hn1:n≤9223372036854775807) (hl:r.s.length≤1152921504606846976) (w:World) (h:Rd B r w) :
 Calls Tryz.prog 119 #[.pointer (some ⟨B,0,none⟩),.int .i64 n] w fun e w'=>e=.returned (.int .i64 ((numR n r).1:Int))∧Rd B (numR n r).2 w'∧One B w w':=by
 have HR:=Lib.hid h
 have hef:=h.e_free
 have he:=h.e_cell
 go_enter Tryz.func119,Tryz.ntmps119
 go_wp2_with (go_at_call 179; refine (err_any B r _ HR.out).mono ?_)
 rintro e w' ⟨rfl,rfl⟩
 by_cases hz:r.e≠0
 ·
  have hb:=ne_b hz
  have HZ:=Lib.hid hz; clear hz h
  have HT:Hid (numR n r=(0,r)):=by unfold numR; rw [if_pos HZ.out]; rfl
  go_wp2_with fail
  go_ret
  rw [HT.out]
  exact ⟨rfl,HR.out,Mod.refl _ _⟩
 ·
  have hb:=eq_b (show r.e=0 by omega)
  have HZ:=Lib.hid hz; clear hz
  have h2:=Lib.hid (h.set1 1)
  have hm:Hid (One B w (w.setCell ⟨B,1,none⟩ (.int .i64 ((1:Nat):Int)))):=(Mod.refl (fun k=>k=B) w).setCell (a:=⟨B,1,none⟩) (Or.inl rfl) _
  clear h
  by_cases hw:n < 1∨7 < n
  ·
   have HT:Hid (numR n r=(0,⟨r.s,1⟩)):=by unfold numR; rw [if_neg HZ.out,if_pos hw]; rfl
   rcases hw with hw | hw
   · go_wp2_with fail
     go_ret
     rw [HT.out]
     exact ⟨rfl,h2.out,hm.out⟩
   · have hw1:1≤n:=by omega
     go_wp2_with fail
     go_ret
     rw [HT.out]
     exact ⟨rfl,h2.out,hm.out⟩
  ·
   have HT:Hid (numR n r=(val (takeR n r).1,(takeR n r).2)):=by unfold numR; rw [if_neg HZ.out,if_neg hw]; rfl
   have hw1:1≤n:=by omega
   have hw2:n≤7:=by omega
   have ho:=Nat.le_trans (takeR_out n r) (show n.toNat≤7 by omega)
   clear hw h2 hm
   go_wp2_with (go_at_call 183; refine (take_any B r n (by omega) (by omega) hl _ HR.out).mono ?_)
   rintro e w1 ⟨rfl,hr1,hm1⟩
   have HR1:=Lib.hid hr1; clear hr1
   have HM1:=Lib.hid hm1; clear hm1
   go_wp2_with (go_at_call 182; refine (get_any _ ho _).mono ?_)
   rintro e w2 ⟨rfl,hd⟩
   have HR2:Hid (Rd B (takeR n r).2 w2):=HR1.out.drawn hd
   have HM2:Hid (One B w w2):=HM1.out.drawn hd
   clear hd
   go_wp2_with fail
   go_ret
   rw [HT.out]
   exact ⟨rfl,HR2.out,HM2.out⟩
theorem longR_set {B:Nat} {r:RS} {w:World} (h:Rd B r w) (h0:r.e=0):Rd B (longR true r) (w.setCell ⟨B,1,none⟩ (.int .i64 ((6:Nat):Int))):=by
 have:=h.set1 6
 unfold longR; rw [if_pos ⟨h0,rfl⟩]; exact this
theorem longR_false (r:RS):longR false r=r:=by unfold longR; simp
theorem longR_err {r:RS} (b:Bool) (h:r.e≠0):longR b r=r:=by unfold longR; rw [if_neg (fun x=>h x.1)]
theorem longR_len (b:Bool) (r:RS):(longR b r).s.length≤r.s.length:=by unfold longR; split <;> exact Nat.le_refl _
theorem textR_eq (most:Int) (r:RS) (h:¬ r.e≠0):textR most r=(if (takeR ((numR 2 r).1:Int) (longR (decide (most < ((numR 2 r).1:Int))) (numR 2 r).2)).2.e≠0
 then ((takeR ((numR 2 r).1:Int) (longR (decide (most < ((numR 2 r).1:Int))) (numR 2 r).2)).1,⟨r.s,(takeR ((numR 2 r).1:Int) (longR (decide (most < ((numR 2 r).1:Int))) (numR 2 r).2)).2.e⟩)
 else takeR ((numR 2 r).1:Int) (longR (decide (most < ((numR 2 r).1:Int))) (numR 2 r).2)):=by
 unfold textR; rw [if_neg h]
theorem text_any (B:Nat) (r:RS) (most:Int) (hn0 : -9223372036854775808≤most) (hn1:most≤9223372036854775807) (hl:r.s.length≤1152921504606846976) (w:World) (h:Rd B r w) :
 Calls Tryz.prog 120 #[.pointer (some ⟨B,0,none⟩),.int .i64 most] w fun e w'=>e=.returned (.string (S (textR most r).1))∧Rd B (textR most r).2 w'∧One B w w':=by
 have HR:=Lib.hid h
 have hsc:=h.s_cell
 clear h
 go_enter Tryz.func120,Tryz.ntmps120
 go_wp2_with (go_at_call 179; refine (err_any B r _ HR.out).mono ?_)
 rintro e w' ⟨rfl,rfl⟩
 by_cases hz:r.e≠0
 ·
  have hb:=ne_b hz
  have HZ:=Lib.hid hz; clear hz
  have HT:Hid (textR most r=([],r)):=by unfold textR; rw [if_pos HZ.out]; rfl
  go_wp2_with fail
  go_ret
  rw [HT.out]
  exact ⟨rfl,HR.out,Mod.refl _ _⟩
 ·
  have hb:=eq_b (show r.e=0 by omega)
  have HT:=Lib.hid (textR_eq most r hz)
  clear hz
  go_wp2_with (go_at_call 119; refine (num_any B r 2 (by omega) (by omega) hl _ HR.out).mono ?_)
  rintro e w1 ⟨rfl,hr1,hm1⟩
  have hx:(numR 2 r).1 < 65536:=numR_lt 2 r
  have hl2:(numR 2 r).2.s.length≤r.s.length:=numR_len 2 r
  generalize numR 2 r=nr at *
  obtain ⟨x,r1⟩:=nr
  simp only at *
  have he1:=hr1.e_cell
  have hf1:=hr1.e_free
  have HM1:=Lib.hid hm1; clear hm1
  have HR1:=Lib.hid hr1; clear hr1
  have fin:∀ (L:RS) (w2 w3:World),L=longR (decide (most < (x:Int))) r1→One B w1 w2→Rd B (takeR (x:Int) L).2 w3→One B w2 w3→(takeR (x:Int) L).2.e=0 →
   S (takeR (x:Int) L).1=S (textR most r).1∧Rd B (textR most r).2 w3∧One B w w3:=by
   intro L w2 w3 h1 h2 h3 h4 h5
   have:=HT.out
   rw [← h1,if_neg (by rw [h5]; simp)] at this
   rw [this]
   exact ⟨rfl,h3,(HM1.out.trans h2).trans h4⟩
  have fin2:∀ (L:RS) (w2 w3 w4:World),L=longR (decide (most < (x:Int))) r1→One B w1 w2→One B w2 w3→(takeR (x:Int) L).2.e≠0→Rd B ⟨r.s,(takeR (x:Int) L).2.e⟩ w4→One B w3 w4 →
   S (takeR (x:Int) L).1=S (textR most r).1∧Rd B (textR most r).2 w4∧One B w w4:=by
   intro L w2 w3 w4 h1 h2 h4 h5 h6 h7
   have:=HT.out
   rw [← h1,if_pos h5] at this
   rw [this]
   exact ⟨rfl,h6,((HM1.out.trans h2).trans h4).trans h7⟩
  have FIN:=Lib.hid fin; clear fin
  have FIN2:=Lib.hid fin2; clear fin2
  have hx1:(x:Int)≤9223372036854775807:=by omega
  by_cases hz1:r1.e≠0
  ·
   have hb1:=ne_b hz1
   have hb1e:=eq_f hz1
   have HL:Hid (r1=longR (decide (most < (x:Int))) r1):=(longR_err _ hz1).symm
   have HW:Hid (One B w1 w1):=Mod.refl _ _
   clear hz1
   have HRL:=HR1
   clear HR1
   go_wp2_with (go_at_call 183; refine (take_any B r1 x (by omega) (by omega) (by omega) _ HRL.out).mono ?_)
   first | rintro e w3 rfl hr3 hm3 | rintro e w3 ⟨rfl,hr3,hm3⟩
   have hc3:=hr3.e_cell
   have HR3:=Lib.hid hr3; clear hr3
   have HM3:=Lib.hid hm3; clear hm3
   clear hf1 he1
   by_cases hz3:(takeR (x:Int) r1).2.e≠0
   ·
    have hb3:=ne_b hz3
    have HZ3:=Lib.hid hz3; clear hz3
    go_wp2_with (go_at_call 184; refine (fails_any B _ _ HR3.out (takeR (x:Int) r1).2.e r.s).mono ?_)
    rintro e w4 ⟨rfl,hr4,hm4⟩
    have H:=Lib.hid (FIN2.out r1 _ _ _ HL.out HW.out HM3.out HZ3.out hr4 hm4)
    clear hr4 hm4
    go_wp2_with fail
    go_ret
    exact ⟨ret_str H.out.1,H.out.2⟩
   ·
    have hz3:(takeR (x:Int) r1).2.e=0:=by omega
    have hb3:=eq_b hz3
    have H:=Lib.hid (FIN.out r1 _ _ HL.out HW.out HR3.out HM3.out hz3)
    clear hz3
    go_wp2_with fail
    go_ret
    exact ⟨ret_str H.out.1,H.out.2⟩
  ·
   have hz10:r1.e=0:=by omega
   have hb1e:=eq_t hz10
   by_cases hm:most < (x:Int)
   ·
    have HL:Hid (longR true r1=longR (decide (most < (x:Int))) r1):=by rw [decide_eq_true hm]; rfl
    have hlen:(longR true r1).s.length≤1152921504606846976:=by have:=longR_len true r1; omega
    have HRL:Hid (Rd B (longR true r1) (w1.setCell ⟨B,1,none⟩ (.int .i64 6))):=longR_set HR1.out hz10
    have HW:Hid (One B w1 (w1.setCell ⟨B,1,none⟩ (.int .i64 6))):=(Mod.refl (fun k=>k=B) w1).setCell (a:=⟨B,1,none⟩) (Or.inl rfl) _
    clear hz10 hz1 HR1
    go_wp2_with (go_at_call 183; refine (take_any B (longR true r1) x (by omega) (by omega) hlen _ HRL.out).mono ?_)
    first | rintro e w3 rfl hr3 hm3 | rintro e w3 ⟨rfl,hr3,hm3⟩
    have hc3:=hr3.e_cell
    have HR3:=Lib.hid hr3; clear hr3
    have HM3:=Lib.hid hm3; clear hm3
    clear hf1 he1
    by_cases hz3:(takeR (x:Int) (longR true r1)).2.e≠0
    ·
     have hb3:=ne_b hz3
     have HZ3:=Lib.hid hz3; clear hz3
     go_wp2_with (go_at_call 184; refine (fails_any B _ _ HR3.out (takeR (x:Int) (longR true r1)).2.e r.s).mono ?_)
     rintro e w4 ⟨rfl,hr4,hm4⟩
     have H:=Lib.hid (FIN2.out (longR true r1) _ _ _ HL.out HW.out HM3.out HZ3.out hr4 hm4)
     clear hr4 hm4
     go_wp2_with fail
     go_ret
     exact ⟨ret_str H.out.1,H.out.2⟩
    ·
     have hz3:(takeR (x:Int) (longR true r1)).2.e=0:=by omega
     have hb3:=eq_b hz3
     have H:=Lib.hid (FIN.out (longR true r1) _ _ HL.out HW.out HR3.out HM3.out hz3)
     clear hz3
     go_wp2_with fail
     go_ret
     exact ⟨ret_str H.out.1,H.out.2⟩
   ·
    have HL:Hid (r1=longR (decide (most < (x:Int))) r1):=by rw [decide_eq_false hm,longR_false]; rfl
    have HW:Hid (One B w1 w1):=Mod.refl _ _
    have hm2:(x:Int)≤most:=by omega
    have HRL:=HR1
    clear hz10 hz1 HR1
    go_wp2_with (go_at_call 183; refine (take_any B r1 x (by omega) (by omega) (by omega) _ HRL.out).mono ?_)
    first | rintro e w3 rfl hr3 hm3 | rintro e w3 ⟨rfl,hr3,hm3⟩
    have hc3:=hr3.e_cell
    have HR3:=Lib.hid hr3; clear hr3
    have HM3:=Lib.hid hm3; clear hm3
    clear hf1 he1
    by_cases hz3:(takeR (x:Int) r1).2.e≠0
    ·
     have hb3:=ne_b hz3
     have HZ3:=Lib.hid hz3; clear hz3
     go_wp2_with (go_at_call 184; refine (fails_any B _ _ HR3.out (takeR (x:Int) r1).2.e r.s).mono ?_)
     rintro e w4 ⟨rfl,hr4,hm4⟩
     have H:=Lib.hid (FIN2.out r1 _ _ _ HL.out HW.out HM3.out HZ3.out hr4 hm4)
     clear hr4 hm4
     go_wp2_with fail
     go_ret
     exact ⟨ret_str H.out.1,H.out.2⟩
    ·
     have hz3:(takeR (x:Int) r1).2.e=0:=by omega
     have hb3:=eq_b hz3
     have H:=Lib.hid (FIN.out r1 _ _ HL.out HW.out HR3.out HM3.out hz3)
     clear hz3
     go_wp2_with fail
     go_ret
     exact ⟨ret_str H.out.1,H.out.2⟩
theorem ownsRow_mod {M:Nat→Prop} {w w':World} {base e sz n:Nat} {v:Value} {xs:List Value} (h:w.ownsRow base e sz v n xs) (hm:Mod M w w') (hM:∀ k,M k→k < base):w'.ownsRow base e sz v n xs:=by
 refine ⟨h.1,?_⟩
 rcases h.2 with hn | ⟨g,cap,cur,hv,hb,hg,rest⟩
 · exact .inl hn
 · exact .inr ⟨g,cap,cur,hv,hb,(hm.block g (Array.getElem?_eq_some_iff.1 hg).1 (fun hk=>by have:=hM g hk; omega)).trans hg,rest⟩
theorem ownsRow_block {w:World} {base e sz n:Nat} {v:Value} {xs:List Value} (h:w.ownsRow base e sz v n xs):∀ g,v.ownBlock=some g→base≤g:=by
 intro g hg
 rcases h.2 with ⟨rfl,_⟩ | ⟨g',cap,cur,rfl,hb,_⟩
 · cases hg
 · cases hg; exact hb
theorem _root_.Go.Proofs.YtnoehodmmkioaaaGreatDoor.Mod.grown {M:Nat→Prop} {u v w:World} {row:Option Nat} (h:Mod M u v) (k:v.grownBy w row) (hr:∀ g,row=some g→u.heap.size≤g):Mod M u w:=by
 refine ⟨k.os.trans h.os,k.tape.trans h.tape,k.output.trans h.output,Nat.le_trans h.size k.size,fun i hi hM=>?_⟩
 rw [k.block i (Nat.lt_of_lt_of_le hi h.size) (fun e=>by have:=hr i e.symm; omega)]
 exact h.block i hi hM
abbrev Texts (base:Nat) (v:Value) (ts:List (List UInt8)) (w:World):Prop:=w.ownsRow base 9 1 v ts.length (ts.map fun l=>.string (S l))
theorem Texts.strs {base:Nat} {v:Value} {ts:List (List UInt8)} {w:World} (h:Texts base v ts w):∃ a cap,v=.slice a ts.length cap∧Strs w a (ts.map S):=by
 obtain ⟨hl,h⟩:=h
 rcases h with ⟨rfl,h0⟩ | ⟨g,cap,cur,rfl,hb,hg,hc1,hc2,hcs,hcur⟩
 · refine ⟨none,0,by rw [h0],fun i hi=>?_⟩
   simp [h0] at hi
 ·
  refine ⟨some ⟨g,0,none⟩,cap,rfl,fun i hi=>⟨g,0,rfl,?_⟩⟩
  unfold World.cell?
  rw [hg]
  have hi':i < ts.length:=by simpa using hi
  have:cur[0+i]?=(cur.toList.take (ts.length * 1))[i]?:=by
   rw [List.getElem?_take,if_pos (by omega)]; simp
  simp only [this,hcur]
  simp [hi']
theorem textsR_succ (most:Int) (k:Nat):∀ r:RS,textsR most (k+1) r=((textsR most k r).1++[(textR most (textsR most k r).2).1],(textR most (textsR most k r).2).2):=by
 induction k with
 | zero=>intro r; rfl
 | succ k ih =>
   intro r
   have h:=ih (textR most r).2
   show ((textR most r).1 :: (textsR most (k+1) (textR most r).2).1,(textsR most (k+1) (textR most r).2).2)=_
   rw [h]; rfl
theorem textsR_length (most:Int) (k:Nat):∀ r:RS,(textsR most k r).1.length=k:=by
 induction k with
 | zero=>intro r; rfl
 | succ k ih=>intro r; simp [textsR,ih]
theorem textR_len (most:Int) (r:RS):(textR most r).2.s.length≤r.s.length:=by
 by_cases h:r.e≠0
 · unfold textR; rw [if_pos h]; exact Nat.le_refl _
 ·
  rw [textR_eq most r h]
  split
  · exact Nat.le_refl _
  · exact Nat.le_trans (takeR_len _ _) (Nat.le_trans (longR_len _ _) (numR_len _ _))
theorem textsR_len (most:Int) (k:Nat):∀ r:RS,(textsR most k r).2.s.length≤r.s.length:=by
 induction k with
 | zero=>intro r; exact Nat.le_refl _
 | succ k ih=>intro r; exact Nat.le_trans (ih _) (textR_len most r)
theorem listR_eq (many most:Int) (r:RS) (h:¬ r.e≠0):listR many most r=(if (textsR most (numR 1 r).1 (longR (decide (many < ((numR 1 r).1:Int))) (numR 1 r).2)).2.e≠0
 then ([],⟨r.s,(textsR most (numR 1 r).1 (longR (decide (many < ((numR 1 r).1:Int))) (numR 1 r).2)).2.e⟩)
 else textsR most (numR 1 r).1 (longR (decide (many < ((numR 1 r).1:Int))) (numR 1 r).2)):=by
 unfold listR; rw [if_neg h]
theorem list_any (B:Nat) (r:RS) (many most:Int) (hn0 : -9223372036854775808≤most) (hn1:most≤9223372036854775807) (hm0 : -9223372036854775808≤many) (hm1:many≤9223372036854775807) (hl:r.s.length≤1152921504606846976) (w:World) (h:Rd B r w) :
 Calls Tryz.prog 223 #[.pointer (some ⟨B,0,none⟩),.int .i64 many,.int .i64 most] w fun e w'=>∃ v,e=.returned v∧Texts w.heap.size v (listR many most r).1 w'∧Rd B (listR many most r).2 w'∧One B w w':=by
 obtain ⟨i0,hi0,hz0,hz1,hz2⟩:=info_parts (show (Tryz.prog.info? 9).map (fun i=>(i.zero,i.size,i.bytes))=some (some (.string ⟨#[]⟩),1,16) by kernel_rfl)
 have HR:=Lib.hid h
 have hsc:=h.s_cell
 have HBL:Hid (B < w.heap.size):=h.lt
 clear h
 go_enter Tryz.func223,Tryz.ntmps223
 go_wp2_with (go_at_call 179; refine (err_any B r _ HR.out).mono ?_)
 rintro e w' ⟨rfl,rfl⟩
 by_cases hz:r.e≠0
 ·
  have hb:=ne_b hz
  have HZ:=Lib.hid hz; clear hz
  have HT:Hid (listR many most r=([],r)):=by unfold listR; rw [if_pos HZ.out]; rfl
  go_wp2_with fail
  go_ret
  rw [HT.out]
  exact ⟨_,rfl,⟨rfl,.inl ⟨rfl,rfl⟩⟩,HR.out,Mod.refl _ _⟩
 ·
  have hb:=eq_b (show r.e=0 by omega)
  have HT:=Lib.hid (listR_eq many most r hz)
  clear hz
  go_wp2_with (go_at_call 119; refine (num_any B r 1 (by omega) (by omega) hl _ HR.out).mono ?_)
  rintro e w1 ⟨rfl,hr1,hm1⟩
  have hx:(numR 1 r).1 < 256:=numR_lt 1 r
  have hl2:(numR 1 r).2.s.length≤r.s.length:=numR_len 1 r
  generalize numR 1 r=nr at *
  obtain ⟨x,r1⟩:=nr
  simp only at *
  have he1:=hr1.e_cell
  have hf1:=hr1.e_free
  have HM1:=Lib.hid hm1; clear hm1
  have HR1:=Lib.hid hr1; clear hr1
  have fin:∀ (L:RS) (v:Value) (w3:World),L=longR (decide (many < (x:Int))) r1→Texts w.heap.size v (textsR most x L).1 w3→Rd B (textsR most x L).2 w3→One B w w3→(textsR most x L).2.e=0 →
   Texts w.heap.size v (listR many most r).1 w3∧Rd B (listR many most r).2 w3∧One B w w3:=by
   intro L v w3 h1 h2 h3 h4 h5
   have:=HT.out
   rw [← h1,if_neg (by rw [h5]; simp)] at this
   rw [this]
   exact ⟨h2,h3,h4⟩
  have fin2:∀ (L:RS) (w4:World),L=longR (decide (many < (x:Int))) r1→(textsR most x L).2.e≠0→Rd B ⟨r.s,(textsR most x L).2.e⟩ w4→One B w w4 →
   Texts w.heap.size (.slice none 0 0) (listR many most r).1 w4∧Rd B (listR many most r).2 w4∧One B w w4:=by
   intro L w4 h1 h5 h6 h7
   have:=HT.out
   rw [← h1,if_pos h5] at this
   rw [this]
   exact ⟨⟨rfl,.inl ⟨rfl,rfl⟩⟩,h6,h7⟩
  have FIN:=Lib.hid fin; clear fin
  have FIN2:=Lib.hid fin2; clear fin2
  by_cases hz1:r1.e≠0
  ·
   have hb1:=ne_b hz1
   have hb1e:=eq_f hz1
   have HL:Hid (r1=longR (decide (many < (x:Int))) r1):=(longR_err _ hz1).symm
   have HW:Hid (One B w1 w1):=Mod.refl _ _
   clear hz1
   have HRL:=HR1
   clear HR1
   have hll:r1.s.length≤1152921504606846976:=by have:=longR_len true r1; omega
   have HWW:Hid (One B w w1):=HM1.out.trans HW.out
   go_wp2_with fail
   clear hf1 he1
   go_loopw [9,33] (fun v i wr=>∃ k:Nat,k≤x∧i=.int .i64 k∧Hid (Texts w.heap.size v (textsR most k r1).1 wr)∧Hid (Rd B (textsR most k r1).2 wr)∧Hid (One B w wr)) (fun _ i _=>x - (intOf i).toNat)
   case atStart=>exact ⟨0,by omega,rfl,⟨rfl,.inl ⟨rfl,rfl⟩⟩,HRL.out,HWW.out⟩
   case round =>
    clear HRL HWW HW
    obtain ⟨k,hk,rfl,HTX,HRD,HW⟩:=hrel
    have hkl:=textsR_len most k r1
    by_cases hlt:k < x
    ·
     go_wp2_with (go_at_call 120; refine (text_any B _ most hn0 hn1 (by omega) _ HRD.out).mono ?_)
     rintro e w3 ⟨rfl,hr3,hm3⟩
     have hso:=textsR_succ most k r1
     have hsl:=textsR_length most k r1
     have HTX3:Hid (w3.ownsRow w.heap.size 9 1 u9 k ((textsR most k r1).1.map fun l=>.string (S l))):=by
      have:=ownsRow_mod HTX.out hm3 (fun g hg=>by rw [hg]; exact HBL.out)
      rw [hsl] at this; exact this
     have HW3:Hid (One B w w3):=HW.out.trans hm3
     clear HTX HW hm3
     generalize textR most (textsR most k r1).2=tx at *
     have HSO:=Lib.hid hso; clear hso
     have HR3:=Lib.hid hr3; clear hr3
     go_wp2_with (at_builtin; refine wpList_append_own _ rfl (.tmp 35) (.tmp 39) 31 rfl w.heap.size 9 i0 (.string ⟨#[]⟩) 1 16 Tryz.underlying31 hi0 hz0 hz1 hz2 rfl (by decide) _ k ((textsR most k r1).1.map fun l=>.string (S l)) rfl (HTX3.out.alloc _) ⟨w3.heap.size,0,none⟩ 1 1 [.string (S tx.1)] rfl rfl ?c1 ?c2 ?c3 ?c4 ?c5 ?_)
     case c1=>exact cell_one_new _ _ _
     case c2=>intro u hu; simp at hu; subst hu; rfl
     case c3=>unfold maxLen; omega
     case c4=>omega
     case c5=>have:=HW3.out.size; simp; omega
     intro v' w4 hown' hgrow _
     have HO4:Hid (Texts w.heap.size v' (textsR most (k+1) r1).1 w4):=by
      show w4.ownsRow _ _ _ _ (textsR most (k+1) r1).1.length _
      rw [textsR_length,HSO.out,List.map_append]; exact hown'
     have hrow:∀ g,u9.ownBlock=some g→w.heap.size≤g:=ownsRow_block HTX3.out
     have HW4:Hid (One B w w4):=(HW3.out.alloc _).grown hgrow hrow
     have HR4:Hid (Rd B (textsR most (k+1) r1).2 w4):=by
      have h1:Rd B tx.2 (w3.alloc (.cells #[.string (S tx.1)] 9)):=HR3.out.mod ((Mod.refl (fun _=>False) w3).alloc _) (fun x=>x)
      have h2:=(hgrow.block B h1.lt (fun e=>by have:=hrow B e.symm; have:=HBL.out; omega)).trans h1
      rw [HSO.out]; exact h2
     clear hown' hgrow HTX3 HW3 HR3 hrow
     go_wp2_with fail
     go_roundw
     case rel=>exact ⟨k+1,by omega,by go_num,HO4.out,HR4.out,HW4.out⟩
     case measure=>simp [intOf]; omega
    ·
     have ek:k=x:=by omega
     subst ek
     have hc3:=HRD.out.e_cell
     by_cases hz3:(textsR most k r1).2.e≠0
     ·
      have hb3:=ne_b hz3
      have HZ3:=Lib.hid hz3; clear hz3
      go_wp2_with (go_at_call 184; refine (fails_any B _ _ HRD.out (textsR most k r1).2.e r.s).mono ?_)
      rintro e w4 ⟨rfl,hr4,hm4⟩
      have H:=Lib.hid (FIN2.out r1 _ HL.out HZ3.out hr4 (HW.out.trans hm4))
      clear hr4 hm4
      go_wp2_with fail
      go_ret
      exact ⟨_,rfl,H.out⟩
     · have hz3:(textsR most k r1).2.e=0:=by omega
       have hb3:=eq_b hz3
       have H:=Lib.hid (FIN.out r1 _ _ HL.out HTX.out HRD.out HW.out hz3)
       clear hz3
       go_wp2_with fail
       go_ret
       exact ⟨_,rfl,H.out⟩
  ·
   have hz10:r1.e=0:=by omega
   have hb1e:=eq_t hz10
   by_cases hm:many < (x:Int)
   ·
    have HL:Hid (longR true r1=longR (decide (many < (x:Int))) r1):=by rw [decide_eq_true hm]; rfl
    have HRL:Hid (Rd B (longR true r1) (w1.setCell ⟨B,1,none⟩ (.int .i64 6))):=longR_set HR1.out hz10
    have HW:Hid (One B w1 (w1.setCell ⟨B,1,none⟩ (.int .i64 6))):=(Mod.refl (fun k=>k=B) w1).setCell (a:=⟨B,1,none⟩) (Or.inl rfl) _
    clear hz10 hz1 HR1
    have hll:(longR true r1).s.length≤1152921504606846976:=by have:=longR_len true r1; omega
    have HWW:Hid (One B w (w1.setCell ⟨B,1,none⟩ (.int .i64 6))):=HM1.out.trans HW.out
    go_wp2_with fail
    clear hf1 he1
    go_loopw [9,33] (fun v i wr=>∃ k:Nat,k≤x∧i=.int .i64 k∧Hid (Texts w.heap.size v (textsR most k (longR true r1)).1 wr)∧Hid (Rd B (textsR most k (longR true r1)).2 wr)∧Hid (One B w wr)) (fun _ i _=>x - (intOf i).toNat)
    case atStart=>exact ⟨0,by omega,rfl,⟨rfl,.inl ⟨rfl,rfl⟩⟩,HRL.out,HWW.out⟩
    case round =>
     clear HRL HWW HW
     obtain ⟨k,hk,rfl,HTX,HRD,HW⟩:=hrel
     have hkl:=textsR_len most k (longR true r1)
     by_cases hlt:k < x
     ·
      go_wp2_with (go_at_call 120; refine (text_any B _ most hn0 hn1 (by omega) _ HRD.out).mono ?_)
      rintro e w3 ⟨rfl,hr3,hm3⟩
      have hso:=textsR_succ most k (longR true r1)
      have hsl:=textsR_length most k (longR true r1)
      have HTX3:Hid (w3.ownsRow w.heap.size 9 1 u9 k ((textsR most k (longR true r1)).1.map fun l=>.string (S l))):=by
       have:=ownsRow_mod HTX.out hm3 (fun g hg=>by rw [hg]; exact HBL.out)
       rw [hsl] at this; exact this
      have HW3:Hid (One B w w3):=HW.out.trans hm3
      clear HTX HW hm3
      generalize textR most (textsR most k (longR true r1)).2=tx at *
      have HSO:=Lib.hid hso; clear hso
      have HR3:=Lib.hid hr3; clear hr3
      go_wp2_with (at_builtin; refine wpList_append_own _ rfl (.tmp 35) (.tmp 39) 31 rfl w.heap.size 9 i0 (.string ⟨#[]⟩) 1 16 Tryz.underlying31 hi0 hz0 hz1 hz2 rfl (by decide) _ k ((textsR most k (longR true r1)).1.map fun l=>.string (S l)) rfl (HTX3.out.alloc _) ⟨w3.heap.size,0,none⟩ 1 1 [.string (S tx.1)] rfl rfl ?c1 ?c2 ?c3 ?c4 ?c5 ?_)
      case c1=>exact cell_one_new _ _ _
      case c2=>intro u hu; simp at hu; subst hu; rfl
      case c3=>unfold maxLen; omega
      case c4=>omega
      case c5=>have:=HW3.out.size; simp; omega
      intro v' w4 hown' hgrow _
      have HO4:Hid (Texts w.heap.size v' (textsR most (k+1) (longR true r1)).1 w4):=by
       show w4.ownsRow _ _ _ _ (textsR most (k+1) (longR true r1)).1.length _
       rw [textsR_length,HSO.out,List.map_append]; exact hown'
      have hrow:∀ g,u9.ownBlock=some g→w.heap.size≤g:=ownsRow_block HTX3.out
      have HW4:Hid (One B w w4):=(HW3.out.alloc _).grown hgrow hrow
      have HR4:Hid (Rd B (textsR most (k+1) (longR true r1)).2 w4):=by
       have h1:Rd B tx.2 (w3.alloc (.cells #[.string (S tx.1)] 9)):=HR3.out.mod ((Mod.refl (fun _=>False) w3).alloc _) (fun x=>x)
       have h2:=(hgrow.block B h1.lt (fun e=>by have:=hrow B e.symm; have:=HBL.out; omega)).trans h1
       rw [HSO.out]; exact h2
      clear hown' hgrow HTX3 HW3 HR3 hrow
      go_wp2_with fail
      go_roundw
      case rel=>exact ⟨k+1,by omega,by go_num,HO4.out,HR4.out,HW4.out⟩
      case measure=>simp [intOf]; omega
     ·
      have ek:k=x:=by omega
      subst ek
      have hc3:=HRD.out.e_cell
      by_cases hz3:(textsR most k (longR true r1)).2.e≠0
      ·
       have hb3:=ne_b hz3
       have HZ3:=Lib.hid hz3; clear hz3
       go_wp2_with (go_at_call 184; refine (fails_any B _ _ HRD.out (textsR most k (longR true r1)).2.e r.s).mono ?_)
       rintro e w4 ⟨rfl,hr4,hm4⟩
       have H:=Lib.hid (FIN2.out (longR true r1) _ HL.out HZ3.out hr4 (HW.out.trans hm4))
       clear hr4 hm4
       go_wp2_with fail
       go_ret
       exact ⟨_,rfl,H.out⟩
      · have hz3:(textsR most k (longR true r1)).2.e=0:=by omega
        have hb3:=eq_b hz3
        have H:=Lib.hid (FIN.out (longR true r1) _ _ HL.out HTX.out HRD.out HW.out hz3)
        clear hz3
        go_wp2_with fail
        go_ret
        exact ⟨_,rfl,H.out⟩
   ·
    have HL:Hid (r1=longR (decide (many < (x:Int))) r1):=by rw [decide_eq_false hm,longR_false]; rfl
    have HW:Hid (One B w1 w1):=Mod.refl _ _
    have hm2:(x:Int)≤many:=by omega
    have HRL:=HR1
    clear hz10 hz1 HR1
    have hll:r1.s.length≤1152921504606846976:=by have:=longR_len true r1; omega
    have HWW:Hid (One B w w1):=HM1.out.trans HW.out
    go_wp2_with fail
    clear hf1 he1
    go_loopw [9,33] (fun v i wr=>∃ k:Nat,k≤x∧i=.int .i64 k∧Hid (Texts w.heap.size v (textsR most k r1).1 wr)∧Hid (Rd B (textsR most k r1).2 wr)∧Hid (One B w wr)) (fun _ i _=>x - (intOf i).toNat)
    case atStart=>exact ⟨0,by omega,rfl,⟨rfl,.inl ⟨rfl,rfl⟩⟩,HRL.out,HWW.out⟩
    case round =>
     clear HRL HWW HW
     obtain ⟨k,hk,rfl,HTX,HRD,HW⟩:=hrel
     have hkl:=textsR_len most k r1
     by_cases hlt:k < x
     ·
      go_wp2_with (go_at_call 120; refine (text_any B _ most hn0 hn1 (by omega) _ HRD.out).mono ?_)
      rintro e w3 ⟨rfl,hr3,hm3⟩
      have hso:=textsR_succ most k r1
      have hsl:=textsR_length most k r1
      have HTX3:Hid (w3.ownsRow w.heap.size 9 1 u9 k ((textsR most k r1).1.map fun l=>.string (S l))):=by
       have:=ownsRow_mod HTX.out hm3 (fun g hg=>by rw [hg]; exact HBL.out)
       rw [hsl] at this; exact this
      have HW3:Hid (One B w w3):=HW.out.trans hm3
      clear HTX HW hm3
      generalize textR most (textsR most k r1).2=tx at *
      have HSO:=Lib.hid hso; clear hso
      have HR3:=Lib.hid hr3; clear hr3
      go_wp2_with (at_builtin; refine wpList_append_own _ rfl (.tmp 35) (.tmp 39) 31 rfl w.heap.size 9 i0 (.string ⟨#[]⟩) 1 16 Tryz.underlying31 hi0 hz0 hz1 hz2 rfl (by decide) _ k ((textsR most k r1).1.map fun l=>.string (S l)) rfl (HTX3.out.alloc _) ⟨w3.heap.size,0,none⟩ 1 1 [.string (S tx.1)] rfl rfl ?c1 ?c2 ?c3 ?c4 ?c5 ?_)
      case c1=>exact cell_one_new _ _ _
      case c2=>intro u hu; simp at hu; subst hu; rfl
      case c3=>unfold maxLen; omega
      case c4=>omega
      case c5=>have:=HW3.out.size; simp; omega
      intro v' w4 hown' hgrow _
      have HO4:Hid (Texts w.heap.size v' (textsR most (k+1) r1).1 w4):=by
       show w4.ownsRow _ _ _ _ (textsR most (k+1) r1).1.length _
       rw [textsR_length,HSO.out,List.map_append]; exact hown'
      have hrow:∀ g,u9.ownBlock=some g→w.heap.size≤g:=ownsRow_block HTX3.out
      have HW4:Hid (One B w w4):=(HW3.out.alloc _).grown hgrow hrow
      have HR4:Hid (Rd B (textsR most (k+1) r1).2 w4):=by
       have h1:Rd B tx.2 (w3.alloc (.cells #[.string (S tx.1)] 9)):=HR3.out.mod ((Mod.refl (fun _=>False) w3).alloc _) (fun x=>x)
       have h2:=(hgrow.block B h1.lt (fun e=>by have:=hrow B e.symm; have:=HBL.out; omega)).trans h1
       rw [HSO.out]; exact h2
      clear hown' hgrow HTX3 HW3 HR3 hrow
      go_wp2_with fail
      go_roundw
      case rel=>exact ⟨k+1,by omega,by go_num,HO4.out,HR4.out,HW4.out⟩
      case measure=>simp [intOf]; omega
     ·
      have ek:k=x:=by omega
      subst ek
      have hc3:=HRD.out.e_cell
      by_cases hz3:(textsR most k r1).2.e≠0
      ·
       have hb3:=ne_b hz3
       have HZ3:=Lib.hid hz3; clear hz3
       go_wp2_with (go_at_call 184; refine (fails_any B _ _ HRD.out (textsR most k r1).2.e r.s).mono ?_)
       rintro e w4 ⟨rfl,hr4,hm4⟩
       have H:=Lib.hid (FIN2.out r1 _ HL.out HZ3.out hr4 (HW.out.trans hm4))
       clear hr4 hm4
       go_wp2_with fail
       go_ret
       exact ⟨_,rfl,H.out⟩
      · have hz3:(textsR most k r1).2.e=0:=by omega
        have hb3:=eq_b hz3
        have H:=Lib.hid (FIN.out r1 _ _ HL.out HTX.out HRD.out HW.out hz3)
        clear hz3
        go_wp2_with fail
        go_ret
        exact ⟨_,rfl,H.out⟩
end Go.Proofs.YtnoehodmmkioaaaGreatDoor.OctW
namespace Go.Proofs.YtnoehodmmkioaaaGreatDoor.Bld
open Go.Shelf Go.RowKit
def ren:Go.Shelf.Ren:=⟨fun | 169=>159 | n=>n,fun | 70=>257 | 9=>9 | 0=>0 | 72=>259 | 37=>218 | 127=>303 | 3=>3 | 5=>5 | n=>n,fun | n=>n⟩
theorem lays:Go.Proofs.Lays.n169 Tryz.prog ren:={
 mixed:=by kernel_rfl
 f169:=Tryz.func159.trans (congrArg some (by kernel_rfl))
 t0:=Tryz.underlying0
 a0:=Tryz.isAgg0
 z0:=Tryz.sizeOf0
 v0:=Tryz.zeroValue0
 t3:=Tryz.underlying3
 a3:=Tryz.isAgg3
 z3:=Tryz.sizeOf3
 v3:=Tryz.zeroValue3
 t9:=Tryz.underlying9
 a9:=Tryz.isAgg9
 z9:=Tryz.sizeOf9
 v9:=Tryz.zeroValue9
 t37:=Tryz.underlying218
 a37:=Tryz.isAgg218
 z37:=Tryz.sizeOf218
 v37:=Tryz.zeroValue218
 t70:=Tryz.underlying257
 a70:=Tryz.isAgg257
 z70:=Tryz.sizeOf257
 v70:=Tryz.zeroValue257
 t72:=Tryz.underlying259
 a72:=Tryz.isAgg259
 z72:=Tryz.sizeOf259
 v72:=Tryz.zeroValue259
 t127:=Tryz.underlying303
 a127:=Tryz.isAgg303
 z127:=Tryz.sizeOf303
 v127:=Tryz.zeroValue303 }
theorem extra:Builder.Extra Tryz.prog ren:={
 sizeBuilder:=by kernel_rfl
 liesBuilder:=by kernel_rfl
 t5:=Tryz.underlying5
 a5:=Tryz.isAgg5
 z5:=Tryz.sizeOf5
 v5:=Tryz.zeroValue5
 infoByte:=by kernel_rfl
 cellsByte:=by kernel_rfl
 sizeByte:=by kernel_rfl
 neB5:=by decide }
theorem string_any (B b:Nat) (l:List UInt8) (w:World) (h:Lib.IsBuilder 259 5 B b (Lib.byteCells l) w) (hBw:B≤w.heap.size) :
 Calls Tryz.prog 159 #[.pointer (some ⟨b,0,none⟩)] w fun e w'=>e=.returned (.string ⟨l.toArray⟩)∧Below B w w':=Any.Builder_String_any lays extra B b l w h hBw
theorem size_builder:(Tryz.prog.info? 259).map (·.size)=some 2:=by kernel_rfl
theorem lies_builder:liesAt Tryz.prog Tryz.prog.depth 259 (2 / Tryz.prog.cellsOf 259) 0 259 1=true:=by kernel_rfl
theorem info_byte:(Tryz.prog.info? 5).map (fun i=>(i.zero,i.size,i.bytes))=some (some (.int .u8 0),1,1):=by kernel_rfl
theorem copyCheck_used (b:Nat) (w:World) (h0:w.cell? ⟨b,0,none⟩=some (.pointer (some ⟨b,0,none⟩))) :
 Calls Tryz.prog 206 #[.pointer (some ⟨b,0,none⟩)] w fun e w'=>e=.returned (.tuple #[])∧w'=w:=by
 obtain ⟨j,hj,_⟩:=Option.map_eq_some_iff.1 size_builder
 go_enter Tryz.func206,Tryz.ntmps206
 go_wp2
 rw [Lib.run_neq_ptr_same w _ Tryz.underlying257 hj]
 go_wp2
 go_end0
 exact ⟨rfl,rfl⟩
theorem copyCheck_fresh (b:Nat) (w:World) (h0:w.cell? ⟨b,0,none⟩=some (.pointer none)) (hsh:w.shape? b=some (259,2)) (hfz:w.frozen? ⟨b,0,none⟩=false) :
 Calls Tryz.prog 206 #[.pointer (some ⟨b,0,none⟩)] w fun e w'=>e=.returned (.tuple #[])∧w'=w.setCell ⟨b,0,none⟩ (.pointer (some ⟨b,0,none⟩)):=by
 obtain ⟨j,hj,hjs⟩:=Option.map_eq_some_iff.1 size_builder
 go_enter Tryz.func206,Tryz.ntmps206
 go_wp2
 rw [Lib.run_to_unsafe w ⟨b,0,none⟩ Tryz.underlying257 Tryz.underlying321 hj (by rw [hjs]; decide) hsh (Nat.zero_lt_succ 1)]
 simp only [Result.andThen]
 rw [Oper.upon_value]
 go_wp2
 rw [run_callFunc_extern Tryz.func229 (by kernel_rfl) (by kernel_rfl) (by kernel_rfl) (e:=Extern.AbiNoEscape.same) (by kernel_rfl)]
 rw [Lib.run_noEscape]
 simp only [Result.andThen]
 rw [Oper.upon_value]
 go_wp2
 rw [Lib.run_from_unsafe w ⟨b,0,none⟩ Tryz.underlying321 Tryz.underlying257 hj hsh lies_builder]
 simp only [Result.andThen]
 rw [Oper.upon_value]
 go_wp2
 go_end0
 exact ⟨rfl,rfl⟩
theorem copyCheck_any (B b:Nat) (bs:List Value) (w:World) (h:Lib.IsBuilder 259 5 B b bs w) :
 Calls Tryz.prog 206 #[.pointer (some ⟨b,0,none⟩)] w fun e w'=>e=.returned (.tuple #[])∧(Lib.BuilderAt 259 5 B b (.pointer (some ⟨b,0,none⟩)) bs w'∧Below B w w'):=by
 rcases h with h | h
 · refine (copyCheck_fresh b w h.cell0 h.shape h.frozen0).mono ?_
   rintro e w' ⟨rfl,rfl⟩
   exact ⟨rfl,h.used _,(Below.refl B w).setCell (p:=⟨b,0,none⟩) h.1 _⟩
 · refine (copyCheck_used b w h.cell0).mono ?_
   rintro e w' ⟨rfl,rfl⟩
   exact ⟨rfl,h,Below.refl B _⟩
theorem writeString_any (B b:Nat) (bs:List Value) (s:ByteArray) (w:World) (h:Lib.IsBuilder 259 5 B b bs w) (hlen:bs.length+s.size≤140737488355328) (hBw:B≤w.heap.size) :
 Calls Tryz.prog 157 #[.pointer (some ⟨b,0,none⟩),.string s] w fun e w'=>e=.returned (.tuple #[.int .i64 s.size,.nilIface])∧(Lib.BuilderAt 259 5 B b (.pointer (some ⟨b,0,none⟩)) (bs++Lib.strCells s) w'∧Below B w w'):=by
 obtain ⟨i0,hi,hz0,hz1,hz2⟩:=info_parts info_byte
 go_enter Tryz.func157,Tryz.ntmps157
 go_wp2_with (go_at_call 206; refine (copyCheck_any B b bs _ h).mono ?_)
 rintro e w1 ⟨rfl,h1,hb1⟩
 obtain ⟨hB,v,hbk,hown,hne⟩:=h1
 have c0:w1.cell? ⟨b,0,none⟩=some (.pointer (some ⟨b,0,none⟩)):=by rw [Lib.cell_of_heap hbk]; rfl
 have c1:w1.cell? ⟨b,1,none⟩=some v:=by rw [Lib.cell_of_heap hbk]; rfl
 go_wp2_with (at_builtin; go_must (refine Lib.wpList_append_own_string _ rfl _ _ 218 9 rfl B 5 i0 Tryz.underlying218 Tryz.underlying9 hi hz0 hz1 hz2 _ _ _ rfl hown s rfl ?c3 ?c4 ?c5 ?_))
 case c3=>unfold maxLen; omega
 case c4=>omega
 case c5=>have:=hb1.size; omega
 intro v' w2 hown' hgrow _
 have hlt:b < w1.heap.size:=by
  rcases Nat.lt_or_ge b w1.heap.size with h' | h'
  · exact h'
  · simp [Array.getElem?_eq_none h'] at hbk
 have hb2:w2.heap[b]?=some (.cells #[.pointer (some ⟨b,0,none⟩),v] 259 (0,0)):=by
  rw [hgrow.block b hlt (fun e=>hne e.symm)]
  exact hbk
 have d0:w2.cell? ⟨b,0,none⟩=some (.pointer (some ⟨b,0,none⟩)):=by rw [Lib.cell_of_heap hb2]; rfl
 have d1:w2.cell? ⟨b,1,none⟩=some v:=by rw [Lib.cell_of_heap hb2]; rfl
 have f1:w2.frozen? ⟨b,1,none⟩=false:=Lib.frozen_of_heap hb2 1
 obtain ⟨ao,n',cap,rfl⟩:∃ ao n' cap,v'=.slice ao n' cap:=by
  rcases hown'.2 with ⟨hv,_⟩ | ⟨g,cap,cur,hv,_⟩
  · exact ⟨_,_,_,hv⟩
  · exact ⟨_,_,_,hv⟩
 go_wp2
 go_ret2
 refine ⟨rfl,?_,?_⟩
 · exact Lib.BuilderAt.put (T:=259) (e:=5) hB hb2 (bs':=bs++Lib.strCells s) (by simpa [Lib.strCells_length] using hown') (by decide)
 · exact (hb1.grown hgrow (by have:=hb1.size; omega) (fun k hk=>(hown.lt k hk).1)).setCell (p:=⟨b,1,none⟩) hB _
end Go.Proofs.YtnoehodmmkioaaaGreatDoor.Bld
namespace Go.Proofs.YtnoehodmmkioaaaGreatDoor.OctW
open Go.RowKit OctMath
abbrev Bl (B b:Nat) (l:List UInt8) (w:World):Prop:=Lib.IsBuilder 259 5 B b (Lib.byteCells l) w
theorem BuilderAt_mod {M:Nat→Prop} {T e B b:Nat} {p:Value} {bs:List Value} {w w':World} (h:Lib.BuilderAt T e B b p bs w) (hm:Mod M w w') (hM:∀ k,M k→k < B):Lib.BuilderAt T e B b p bs w':=by
 obtain ⟨hB,v,hb,hown,hne⟩:=h
 have hlt:=(Array.getElem?_eq_some_iff.1 hb).1
 exact ⟨hB,v,(hm.block b hlt (fun h=>by have:=hM b h; omega)).trans hb,ownsRow_mod hown hm hM,hne⟩
theorem Bl.mod {M:Nat→Prop} {B b:Nat} {l:List UInt8} {w w':World} (h:Bl B b l w) (hm:Mod M w w') (hM:∀ k,M k→k < B):Bl B b l w':=by
 rcases h with h | h
 · exact .inl (BuilderAt_mod h hm hM)
 · exact .inr (BuilderAt_mod h hm hM)
theorem Bl.below {B b:Nat} {l:List UInt8} {w w':World} (h:Bl B b l w) (hm:Below w.heap.size w w'):Bl B b l w':=h.mod (M:=fun _=>False) (Mod.of_below hm) (fun _ x=>x.elim)
def Ints (w:World) (a:Option Addr) (xs:List Int):Prop:=∀ i (h:i < xs.length),∃ b off,a=some ⟨b,off,none⟩∧w.cell? ⟨b,off+i,none⟩=some (.int .i64 xs[i])
theorem Ints.below {w w':World} {a:Option Addr} {xs:List Int} (h:Ints w a xs) (hb:Below w.heap.size w w'):Ints w' a xs:=by
 intro i hi
 obtain ⟨b,off,rfl,hc⟩:=h i hi
 exact ⟨b,off,rfl,by rw [hb.cell (cell_lt hc)]; exact hc⟩
def numsL (n:Nat) (xs:List Int):List UInt8:=xs.flatMap fun x=>be n x.toNat
def fits (n:Nat) (x:Int):Prop:=0≤x∧x < (256 ^ n:Nat)
instance (n:Nat) (x:Int):Decidable (fits n x):=by unfold fits; infer_instance
def numsW (n:Int) (xs:List Int):List UInt8×Nat:=if n < 1∨7 < n then ([],1) else if ∀ x∈xs,fits n.toNat x then (numsL n.toNat xs,0) else ([],2)
theorem numsL_take (n:Nat) (xs:List Int) (k:Nat) (h:k < xs.length):numsL n (xs.take (k+1))=numsL n (xs.take k)++be n xs[k].toNat:=by
 unfold numsL; rw [List.take_succ_eq_append_getElem h,List.flatMap_append]; simp
theorem numsL_length (n:Nat) (xs:List Int):(numsL n xs).length=xs.length * n:=by
 unfold numsL; induction xs with
 | nil=>simp
 | cons x xs ih=>simp [be_length,ih,Nat.succ_mul]; omega
theorem shr_b (z m:Nat):((z:Int) / 2 ^ (8 * m) != 0)=decide (256 ^ m≤z):=by
 have h:((z:Int) / 2 ^ (8 * m))=((z / 256 ^ m:Nat):Int):=by
  rw [Int.natCast_ediv,show ((256 ^ m:Nat):Int)=2 ^ (8 * m) from by rw [Int.natCast_pow,Int.pow_mul]; rfl]
 have hp:0 < 256 ^ m:=Nat.pow_pos (by omega)
 rw [h]
 by_cases hz:256 ^ m≤z
 ·
  have:=Nat.div_pos hz hp
  rw [decide_eq_true hz]
  generalize z / 256 ^ m=q at *
  exact bne_iff_ne.2 (by omega)
 · rw [decide_eq_false hz,Nat.div_eq_of_lt (by omega)]; rfl
theorem nums_any (n:Int) (hn0 : -9223372036854775808≤n) (hn1:n≤9223372036854775807) (a:Option Addr) (cap:Nat) (xs:List Int) (hx:xs.length≤1048576) (hr:∀ x∈xs,-9223372036854775808≤x∧x≤9223372036854775807) (W:World) (h:Ints W a xs) :
 Calls Tryz.prog 94 #[.int .i64 n,.slice a xs.length cap] W fun e w'=>e=.returned (.tuple #[.string (S (numsW n xs).1),.int .i64 ((numsW n xs).2:Int)])∧Below W.heap.size W w':=by
 have HI:=Lib.hid h; clear h
 have HRG:=Lib.hid hr; clear hr
 by_cases hw:n < 1∨7 < n
 ·
  have HT:Hid (numsW n xs=([],1)):=by unfold numsW; rw [if_pos hw]; rfl
  go_enter Tryz.func94,Tryz.ntmps94
  rcases hw with hw | hw
  · go_wp2_with fail
    go_ret2
    rw [HT.out]
    exact ⟨rfl,Below.refl _ _⟩
  ·
   have hw1:1≤n:=by omega
   go_wp2_with fail
   go_ret2
   rw [HT.out]
   exact ⟨rfl,Below.refl _ _⟩
 ·
  obtain ⟨m,rfl⟩:∃ m:Nat,n=m:=⟨n.toNat,by omega⟩
  have hm1:1≤m:=by omega
  have hm7:m≤7:=by omega
  have HT:Hid (numsW (m:Int) xs=if ∀ x∈xs,fits m x then (numsL m xs,0) else ([],2)):=by unfold numsW; rw [if_neg hw]; rfl
  clear hw
  have HF:Hid (Bl W.heap.size W.heap.size [] (W.alloc (.cells #[.pointer none,.slice none 0 0] 259))):=Lib.fresh_isBuilder _ _ W
  have HB:Hid (Below W.heap.size W (W.alloc (.cells #[.pointer none,.slice none 0 0] 259))):=(Below.refl _ W).alloc (Nat.le_refl _) _
  go_enter Tryz.func94,Tryz.ntmps94
  go_wp2_with fail
  go_loopw [17] (fun i wr=>∃ k:Nat,k≤xs.length∧i=.int .i64 k∧Hid (Bl W.heap.size W.heap.size (numsL m (xs.take k)) wr)∧Hid (Below W.heap.size W wr)∧Hid (∀ x∈xs.take k,fits m x)) (fun i _=>xs.length - (intOf i).toNat)
  case atStart=>exact ⟨0,by omega,rfl,HF,HB,by simp [Hid]⟩
  case round =>
   clear HF HB
   obtain ⟨k,hk,rfl,HF,HB,HA⟩:=hrel
   by_cases hlt:k < xs.length
   ·
    obtain ⟨b,off,rfl,hc⟩:=HI.out k hlt
    rw [← HB.out.cell (cell_lt hc)] at hc
    have hrg:=HRG.out xs[k] (by simp)
    have hnl:=numsL_take m xs k hlt
    have htk:∀ x,x∈xs.take (k+1)↔x∈xs.take k∨x=xs[k]:=by intro y; rw [List.take_succ_eq_append_getElem hlt,List.mem_append,List.mem_singleton]
    have hmem:xs[k]∈xs:=by simp
    generalize xs[k]=x at *
    have HNL:=Lib.hid hnl; clear hnl
    have HTK:=Lib.hid htk; clear htk
    have HMEM:=Lib.hid hmem; clear hmem
    obtain ⟨hr0,hr1⟩:=hrg
    by_cases h0:x < 0
    · have HT2:Hid (numsW (m:Int) xs=([],2)):=by rw [HT.out,if_neg (fun h=>by have:=(h x HMEM.out).1; omega)]; rfl
      go_wp2_with fail
      go_ret2
      rw [HT2.out]
      exact ⟨rfl,HB.out⟩
    ·
     obtain ⟨z,rfl⟩:∃ z:Nat,x=z:=⟨x.toNat,by omega⟩
     clear h0 hr0
     have hsh:=shr_b z m
     by_cases hf:256 ^ m≤z
     · have HT2:Hid (numsW (m:Int) xs=([],2)):=by rw [HT.out,if_neg (fun h=>by have:=(h z HMEM.out).2; omega)]; rfl
       rw [decide_eq_true hf] at hsh
       clear hf
       go_wp2_with fail
       go_ret2
       rw [HT2.out]
       exact ⟨rfl,HB.out⟩
     ·
      have hfz:Hid (fits m z):=⟨by omega,by omega⟩
      rw [decide_eq_false hf] at hsh
      clear hf
      go_wp2_with (go_at_call 158; refine (put_any m z (by omega) (by omega) _).mono ?_)
      rintro e w1 ⟨rfl,hb1⟩
      have HB1:Hid (Below W.heap.size W w1):=HB.out.trans (hb1.mono HB.out.size)
      have HF1:Hid (Bl W.heap.size W.heap.size (numsL m (xs.take k)) w1):=HF.out.below hb1
      have hlen:(Lib.byteCells (numsL m (xs.take k))).length+(S (be m z)).size≤140737488355328:=by
       rw [Lib.byteCells_length,numsL_length,S_size,be_length,List.length_take]
       have:min k xs.length * m≤1048576 * 7:=Nat.mul_le_mul (by omega) hm7
       omega
      clear hb1 HF HB
      go_wp2_with (go_at_call 157; refine (Bld.writeString_any W.heap.size W.heap.size _ (S (be m z)) _ HF1.out hlen HB1.out.size).mono ?_)
      rintro e w2 ⟨rfl,hbl,hb2⟩
      have HB2:Hid (Below W.heap.size W w2):=HB1.out.trans hb2
      have HF2:Hid (Bl W.heap.size W.heap.size (numsL m (xs.take (k+1))) w2):=by
       rw [HNL.out]
       have:Lib.byteCells (numsL m (xs.take k))++Lib.strCells (S (be m z))=Lib.byteCells (numsL m (xs.take k)++be m z):=by rw [Lib.strCells_eq,S_list,Lib.byteCells_append]
       rw [this] at hbl
       exact .inr hbl
      clear hbl hb2 HF1 HB1 hlen
      go_wp2_with fail
      go_roundw
      case rel =>
       refine ⟨k+1,by omega,by go_num,HF2,HB2,fun y hy=>?_⟩
       rcases (HTK.out y).1 hy with hy | rfl
       · exact HA.out y hy
       · exact hfz.out
      case measure=>simp [intOf]; omega
   ·
    have ek:k=xs.length:=by omega
    subst ek
    rw [List.take_length] at HF HA
    have HT2:Hid (numsW (m:Int) xs=(numsL m xs,0)):=by rw [HT.out,if_pos HA.out]; rfl
    go_wp2_with (go_at_call 159; refine (Bld.string_any W.heap.size W.heap.size _ _ HF.out HB.out.size).mono ?_)
    rintro e w2 ⟨rfl,hb2⟩
    have HB2:Hid (Below W.heap.size W w2):=HB.out.trans hb2
    clear hb2
    go_wp2_with fail
    go_ret2
    rw [HT2.out]
    exact ⟨rfl,HB2.out⟩
def textL (t:List UInt8):List UInt8:=be 2 t.length++t
def textsL (ts:List (List UInt8)):List UInt8:=ts.flatMap textL
def textsW (ts:List (List UInt8)):List UInt8×Nat:=if ∀ t∈ts,t.length≤65535 then (textsL ts,0) else ([],6)
def listW (ts:List (List UInt8)):List UInt8×Nat:=if 255 < ts.length then ([],6) else if ∀ t∈ts,t.length≤65535 then (be 1 ts.length++textsL ts,0) else ([],6)
theorem textsL_take (ts:List (List UInt8)) (k:Nat) (h:k < ts.length):textsL (ts.take (k+1))=textsL (ts.take k)++textL ts[k]:=by
 unfold textsL; rw [List.take_succ_eq_append_getElem h,List.flatMap_append]; simp
theorem textsL_take_le (ts:List (List UInt8)) (k:Nat):(textsL (ts.take k)).length≤(textsL ts).length:=by
 unfold textsL
 conv=>rhs; rw [← List.take_append_drop k ts]
 rw [List.flatMap_append,List.length_append]; omega
theorem texts_any (a:Option Addr) (cap:Nat) (ts:List (List UInt8)) (hx:ts.length≤1048576) (hlen:(textsL ts).length≤1073741824) (W:World) (h:Strs W a (ts.map S)) :
 Calls Tryz.prog 95 #[.slice a ts.length cap] W fun e w'=>e=.returned (.tuple #[.string (S (textsW ts).1),.int .i64 ((textsW ts).2:Int)])∧Below W.heap.size W w':=by
 have HI:=Lib.hid h; clear h
 have HLEN:=Lib.hid hlen; clear hlen
 have HF:Hid (Bl W.heap.size W.heap.size [] (W.alloc (.cells #[.pointer none,.slice none 0 0] 259))):=Lib.fresh_isBuilder _ _ W
 have HB:Hid (Below W.heap.size W (W.alloc (.cells #[.pointer none,.slice none 0 0] 259))):=(Below.refl _ W).alloc (Nat.le_refl _) _
 go_enter Tryz.func95,Tryz.ntmps95
 go_wp2_with fail
 go_loopw [9] (fun i wr=>∃ k:Nat,k≤ts.length∧i=.int .i64 k∧Hid (Bl W.heap.size W.heap.size (textsL (ts.take k)) wr)∧Hid (Below W.heap.size W wr)∧Hid (∀ x∈ts.take k,x.length≤65535)) (fun i _=>ts.length - (intOf i).toNat)
 case atStart=>exact ⟨0,by omega,rfl,HF,HB,by simp [Hid]⟩
 case round =>
  clear HF HB
  obtain ⟨k,hk,rfl,HF,HB,HA⟩:=hrel
  by_cases hlt:k < ts.length
  ·
   obtain ⟨b,off,rfl,hc⟩:=HI.out k (by simpa using hlt)
   rw [← HB.out.cell (cell_lt hc),List.getElem_map] at hc
   have hnl:=textsL_take ts k hlt
   have htk:∀ y,y∈ts.take (k+1)↔y∈ts.take k∨y=ts[k]:=by intro y; rw [List.take_succ_eq_append_getElem hlt,List.mem_append,List.mem_singleton]
   have hmem:ts[k]∈ts:=by simp
   have hl1:(textsL (ts.take (k+1))).length≤1073741824:=Nat.le_trans (textsL_take_le ts _) HLEN.out
   rw [hnl,List.length_append] at hl1
   generalize ts[k]=x at *
   have hxl:(textL x).length=x.length+2:=by unfold textL; rw [List.length_append,be_length]; omega
   have HNL:=Lib.hid hnl; clear hnl
   have HTK:=Lib.hid htk; clear htk
   have HMEM:=Lib.hid hmem; clear hmem
   have hsz:=S_size x
   by_cases hf:65535 < x.length
   · have HT2:Hid (textsW ts=([],6)):=by unfold textsW; rw [if_neg (fun h=>by have:=h x HMEM.out; omega)]; rfl
     go_wp2_with fail
     go_ret2
     rw [HT2.out]
     exact ⟨rfl,HB.out⟩
   ·
    have hs2:(S (be 2 x.length)).size=2:=by rw [S_size,be_length]
    have hcat:Hid (S (be 2 x.length)++S x=S (textL x)):=S_append _ _
    go_wp2_with (go_at_call 158; refine (put_any 2 x.length (by omega) (by omega) _).mono ?_)
    rintro e w1 ⟨rfl,hb1⟩
    have HB1:Hid (Below W.heap.size W w1):=HB.out.trans (hb1.mono HB.out.size)
    have HF1:Hid (Bl W.heap.size W.heap.size (textsL (ts.take k)) w1):=HF.out.below hb1
    have hlen:(Lib.byteCells (textsL (ts.take k))).length+(S (textL x)).size≤140737488355328:=by
     rw [Lib.byteCells_length,S_size]; omega
    clear hb1 HF HB
    go_wp2_with fail
    rw [hcat.out]
    refine (Bld.writeString_any W.heap.size W.heap.size _ (S (textL x)) _ HF1.out hlen HB1.out.size).mono ?_
    rintro e w2 ⟨rfl,hbl,hb2⟩
    have HB2:Hid (Below W.heap.size W w2):=HB1.out.trans hb2
    have HF2:Hid (Bl W.heap.size W.heap.size (textsL (ts.take (k+1))) w2):=by
     rw [HNL.out]
     have:Lib.byteCells (textsL (ts.take k))++Lib.strCells (S (textL x))=Lib.byteCells (textsL (ts.take k)++textL x):=by rw [Lib.strCells_eq,S_list,Lib.byteCells_append]
     rw [this] at hbl
     exact .inr hbl
    clear hbl hb2 HF1 HB1 hlen
    go_wp2_with fail
    go_roundw
    case rel =>
     refine ⟨k+1,by omega,by go_num,HF2,HB2,fun y hy=>?_⟩
     rcases (HTK.out y).1 hy with hy | rfl
     · exact HA.out y hy
     · omega
    case measure=>simp [intOf]; omega
  ·
   have ek:k=ts.length:=by omega
   subst ek
   rw [List.take_length] at HF HA
   have HT2:Hid (textsW ts=(textsL ts,0)):=by unfold textsW; rw [if_pos HA.out]; rfl
   go_wp2_with (go_at_call 159; refine (Bld.string_any W.heap.size W.heap.size _ _ HF.out HB.out.size).mono ?_)
   rintro e w2 ⟨rfl,hb2⟩
   have HB2:Hid (Below W.heap.size W w2):=HB.out.trans hb2
   clear hb2
   go_wp2_with fail
   go_ret2
   rw [HT2.out]
   exact ⟨rfl,HB2.out⟩
theorem listw_any (a:Option Addr) (cap:Nat) (ts:List (List UInt8)) (hx:ts.length≤1048576) (hlen:(textsL ts).length≤1073741824) (W:World) (h:Strs W a (ts.map S)) :
 Calls Tryz.prog 164 #[.slice a ts.length cap] W fun e w'=>e=.returned (.tuple #[.string (S (listW ts).1),.int .i64 ((listW ts).2:Int)])∧Below W.heap.size W w':=by
 have HI:=Lib.hid h; clear h
 go_enter Tryz.func164,Tryz.ntmps164
 by_cases hl:255 < ts.length
 ·
  have HT:Hid (listW ts=([],6)):=by unfold listW; rw [if_pos hl]; rfl
  go_wp2_with fail
  go_ret2
  rw [HT.out]
  exact ⟨rfl,Below.refl _ _⟩
 ·
  go_wp2_with (go_at_call 95; refine (texts_any a cap ts hx hlen _ HI.out).mono ?_)
  rintro e w1 ⟨rfl,hb1⟩
  have HB1:=Lib.hid hb1; clear hb1
  by_cases hf:∀ t∈ts,t.length≤65535
  ·
   have h1:(textsW ts)=(textsL ts,0):=by unfold textsW; rw [if_pos hf]
   have HT:Hid (listW ts=(be 1 ts.length++textsL ts,0)):=by unfold listW; rw [if_neg hl,if_pos hf]; rfl
   rw [h1]
   clear h1 hf
   have hs2:(S (be 1 ts.length)).size=1:=by rw [S_size,be_length]
   have hs3:=S_size (textsL ts)
   have hcat:Hid (S (be 1 ts.length)++S (textsL ts)=S (be 1 ts.length++textsL ts)):=S_append _ _
   go_wp2_with (go_at_call 158; refine (put_any 1 ts.length (by omega) (by omega) _).mono ?_)
   rintro e w2 ⟨rfl,hb2⟩
   have HB2:Hid (Below W.heap.size W w2):=HB1.out.trans (hb2.mono HB1.out.size)
   clear hb2
   go_wp2_with fail
   rw [hcat.out]
   go_wp2_with fail
   go_ret2
   rw [HT.out]
   exact ⟨rfl,HB2.out⟩
  ·
   have h1:(textsW ts)=([],6):=by unfold textsW; rw [if_neg hf]
   have HT:Hid (listW ts=([],6)):=by unfold listW; rw [if_neg hl,if_neg hf]; rfl
   rw [h1]
   clear h1 hf
   go_wp2_with fail
   go_ret2
   rw [HT.out]
   exact ⟨rfl,HB1.out⟩
def readM (most:Int) (l:List UInt8):List UInt8×Nat×Nat :=
 if l.length < 2 then ([],0,3) else if most < (val (l.take 2):Int) then ([],0,6) else if l.length < 2+val (l.take 2) then ([],0,3) else ((l.drop 2).take (val (l.take 2)),2+val (l.take 2),0)
theorem numR_at (n:Nat) (l:List UInt8) (h1:1≤n) (h7:n≤7):numR (n:Int) ⟨l,0⟩=if l.length < n then (0,⟨l,3⟩) else (val (l.take n),⟨l.drop n,0⟩):=by
 have ht:takeR (n:Int) ⟨l,0⟩=if l.length < n then ([],⟨l,3⟩) else (l.take n,⟨l.drop n,0⟩):=by
  unfold takeR
  rw [if_neg (by simp),if_neg (by omega)]
  by_cases h:l.length < n
  · rw [if_pos h,if_pos (by simpa using h)]
  · rw [if_neg h,if_neg (by simpa using h)]; simp
 unfold numR
 rw [if_neg (by simp),if_neg (by omega),ht]
 split <;> rfl
theorem textR_readM (most:Int) (l:List UInt8):textR most ⟨l,0⟩=((readM most l).1,⟨l.drop (readM most l).2.1,(readM most l).2.2⟩):=by
 rw [textR_eq most _ (by simp)]
 have hn:=numR_at 2 l (by omega) (by omega)
 rw [show numR 2 ⟨l,0⟩=_ from hn]
 unfold readM
 by_cases h2:l.length < 2
 ·
  rw [if_pos h2,if_pos h2]
  have:longR (decide (most < ((0:Nat):Int))) ⟨l,3⟩=⟨l,3⟩:=longR_err _ (by simp)
  simp only [this]
  have:takeR ((0:Nat):Int) ⟨l,3⟩=([],⟨l,3⟩):=by unfold takeR; rw [if_pos (by simp)]
  rw [this]; simp
 ·
  rw [if_neg h2,if_neg h2]
  simp only
  generalize hx:val (l.take 2)=x
  by_cases hm:most < (x:Int)
  ·
   rw [decide_eq_true hm,if_pos hm]
   have:longR true ⟨l.drop 2,0⟩=⟨l.drop 2,6⟩:=by unfold longR; rw [if_pos ⟨rfl,rfl⟩]
   rw [this]
   have:takeR (x:Int) ⟨l.drop 2,6⟩=([],⟨l.drop 2,6⟩):=by unfold takeR; rw [if_pos (by simp)]
   rw [this]; simp
  ·
   rw [decide_eq_false hm,if_neg hm,longR_false]
   have ht:takeR (x:Int) ⟨l.drop 2,0⟩=if l.length < 2+x then ([],⟨l.drop 2,3⟩) else ((l.drop 2).take x,⟨l.drop (2+x),0⟩):=by
    unfold takeR
    rw [if_neg (by simp),if_neg (show ¬ (x:Int) < 0 by omega)]
    by_cases hs:l.length < 2+x
    · rw [if_pos hs,if_pos (show ((l.drop 2).length:Int) < x by rw [List.length_drop]; omega)]
    · rw [if_neg hs,if_neg (show ¬ ((l.drop 2).length:Int) < x by rw [List.length_drop]; omega)]; simp
   rw [ht]
   by_cases hs:l.length < 2+x
   · rw [if_pos hs,if_pos hs,if_pos (by simp)]; simp
   · rw [if_neg hs,if_neg hs,if_neg (by simp)]
theorem numR_be (m x:Nat) (rest:List UInt8) (h1:1≤m) (h7:m≤7) (hx:x < 256 ^ m):numR (m:Int) ⟨be m x++rest,0⟩=(x,⟨rest,0⟩):=by
 have hl:=be_length m x
 have ht:takeR (m:Int) ⟨be m x++rest,0⟩=(be m x,⟨rest,0⟩):=by
  unfold takeR
  rw [if_neg (by simp),if_neg (by omega),if_neg (by simp [hl]; omega)]
  simp [hl]
 unfold numR
 rw [if_neg (by simp),if_neg (by omega),ht,val_be,Nat.mod_eq_of_lt hx]
theorem textL_length (t:List UInt8):(textL t).length=t.length+2:=by unfold textL; rw [List.length_append,be_length]; omega
theorem textsL_cons (t:List UInt8) (ts:List (List UInt8)):textsL (t :: ts)=textL t++textsL ts:=by unfold textsL; simp
theorem readM_text (most:Int) (t rest:List UInt8) (h:t.length≤65535) (hm:(t.length:Int)≤most):readM most (textL t++rest)=(t,2+t.length,0):=by
 have hl:(textL t++rest).length=t.length+2+rest.length:=by rw [List.length_append,textL_length]
 have ht:(textL t++rest).take 2=be 2 t.length:=by
  unfold textL; rw [List.append_assoc,List.take_append_of_le_length (by rw [be_length]; omega),List.take_of_length_le (by rw [be_length]; omega)]
 have hd:(textL t++rest).drop 2=t++rest:=by
  unfold textL; rw [List.append_assoc]
  have:=be_length 2 t.length
  rw [List.drop_append,List.drop_of_length_le (by omega),this]; simp
 have hv:val (be 2 t.length)=t.length:=by rw [val_be]; exact Nat.mod_eq_of_lt (by omega)
 unfold readM
 rw [ht,hv,hl,hd,if_neg (by omega),if_neg (by omega),if_neg (by omega)]
 simp
theorem textR_text (most:Int) (t rest:List UInt8) (h:t.length≤65535) (hm:(t.length:Int)≤most):textR most ⟨textL t++rest,0⟩=(t,⟨rest,0⟩):=by
 rw [textR_readM,readM_text most t rest h hm]
 have:(textL t++rest).drop (2+t.length)=rest:=by
  rw [List.drop_append,List.drop_of_length_le (by rw [textL_length]; omega),textL_length,show 2+t.length - (t.length+2)=0 by omega]; rfl
 simp only [this]
theorem textsR_texts (most:Int) (rest:List UInt8):∀ ts:List (List UInt8),(∀ t∈ts,t.length≤65535∧(t.length:Int)≤most)→textsR most ts.length ⟨textsL ts++rest,0⟩=(ts,⟨rest,0⟩):=by
 intro ts
 induction ts with
 | nil=>intro _; rfl
 | cons t ts ih =>
   intro h
   have h0:=h t (List.mem_cons_self ..)
   have hr:=textR_text most t (textsL ts++rest) h0.1 h0.2
   rw [textsL_cons,List.append_assoc]
   show ((textR most _).1 :: (textsR most ts.length (textR most _).2).1,(textsR most ts.length (textR most _).2).2)=_
   rw [hr]
   simp only
   rw [ih (fun t ht=>h t (List.mem_cons_of_mem _ ht))]
theorem numR_list (n:Nat) (rest:List UInt8) (h:n≤255):numR 1 ⟨be 1 n++rest,0⟩=(n,⟨rest,0⟩):=numR_be 1 n rest (by omega) (by omega) (by omega)
theorem listR_list (many most:Int) (rest:List UInt8) (ts:List (List UInt8)) (hl:ts.length≤255) (hm:(ts.length:Int)≤many) (h:∀ t∈ts,t.length≤65535∧(t.length:Int)≤most) :
 listR many most ⟨be 1 ts.length++textsL ts++rest,0⟩=(ts,⟨rest,0⟩):=by
 rw [listR_eq _ _ _ (by simp),List.append_assoc,numR_list _ _ hl]
 simp only
 rw [decide_eq_false (by omega),longR_false,textsR_texts most rest ts h,if_neg (by simp)]
end Go.Proofs.YtnoehodmmkioaaaGreatDoor.OctW
namespace Go.Proofs.YtnoehodmmkioaaaGreatDoor.CrcMath
def poly:BitVec 32:=0xEDB88320#32
def cstep (x:BitVec 32):BitVec 32:=if x.getLsbD 0 then (x >>> 1) ^^^ poly else x >>> 1
def steps:Nat→BitVec 32→BitVec 32
 | 0,x=>x
 | n+1,x=>steps n (cstep x)
theorem steps_add (m n:Nat) (x:BitVec 32):steps (m+n) x=steps n (steps m x):=by
 induction m generalizing x with
 | zero=>simp [steps]
 | succ m ih=>rw [Nat.succ_add]; simp only [steps]; exact ih _
theorem steps_succ' (n:Nat) (x:BitVec 32):steps (n+1) x=cstep (steps n x):=by
 rw [steps_add]; rfl
theorem ushr_xor (x y:BitVec 32) (n:Nat):(x ^^^ y) >>> n=(x >>> n) ^^^ (y >>> n):=by
 ext i hi; simp
theorem xor_cancel (p a b:BitVec 32):(a ^^^ p) ^^^ (b ^^^ p)=a ^^^ b:=by
 ext i hi; simp; cases a[i] <;> cases b[i] <;> cases p[i] <;> rfl
theorem cstep_xor (x y:BitVec 32):cstep (x ^^^ y)=cstep x ^^^ cstep y:=by
 unfold cstep
 rw [BitVec.getLsbD_xor,ushr_xor]
 cases x.getLsbD 0 <;> cases y.getLsbD 0 <;> simp
 · ac_rfl
 · ac_rfl
 · exact (xor_cancel _ _ _).symm
theorem steps_xor (n:Nat) (x y:BitVec 32):steps n (x ^^^ y)=steps n x ^^^ steps n y:=by
 induction n generalizing x y with
 | zero=>rfl
 | succ n ih=>simp only [steps,cstep_xor]; exact ih _ _
theorem steps_low (n:Nat) (x:BitVec 32) (h:∀ i,i < n→x.getLsbD i=false):steps n x=x >>> n:=by
 induction n generalizing x with
 | zero=>simp [steps]
 | succ n ih =>
   have h0:cstep x=x >>> 1:=by unfold cstep; rw [h 0 (by omega)]; simp
   simp only [steps,h0]
   rw [ih]
   · ext i hi; simp; congr 1; omega
   · intro i hi; simp; exact h _ (by omega)
def ext (b:BitVec 8):BitVec 32:=b.setWidth 32
theorem shl_shr (k:Nat) (x:BitVec 32) (h:∀ i,32 - k≤i→x.getLsbD i=false):(x <<< k) >>> k=x:=by
 ext i hi
 simp
 rw [← BitVec.getLsbD_eq_getElem hi]
 by_cases h2:k+i < 32
 · simp [h2]
 · simp [h2,h i (by omega)]
theorem steps_shift (n k:Nat) (x:BitVec 32) (h:∀ i,32 - k≤i→x.getLsbD i=false):steps (k+n) (x <<< k)=steps n x:=by
 rw [steps_add,steps_low k (x <<< k) (by intro i hi; simp; intro _ h2; omega),shl_shr k x h]
theorem ext_high (b:BitVec 8) (i:Nat) (hi:8≤i):(ext b).getLsbD i=false:=by
 simp [ext]; intro _; exact BitVec.getLsbD_of_ge _ _ hi
def tab (k:Nat) (b:BitVec 8):BitVec 32:=steps (8 * (k+1)) (ext b)
def upd (r:BitVec 32) (b:BitVec 8):BitVec 32:=steps 8 (r ^^^ ext b)
def reg (r:BitVec 32) (l:List UInt8):BitVec 32:=l.foldl (fun r b=>upd r b.toBitVec) r
theorem reg_append (r:BitVec 32) (a b:List UInt8):reg r (a++b)=reg (reg r a) b:=List.foldl_append ..
theorem reg_cons (r:BitVec 32) (a:UInt8) (b:List UInt8):reg r (a :: b)=reg (upd r a.toBitVec) b:=rfl
theorem reg_nil (r:BitVec 32):reg r []=r:=rfl
theorem steps8_tab (w:BitVec 32):steps 8 w=tab 0 (w.setWidth 8) ^^^ (w >>> 8):=by
 have h:w=ext (w.setWidth 8) ^^^ ((w >>> 8) <<< 8):=by
  ext i hi; simp [ext]
  by_cases h:i < 8
  · simp [h,hi]
  · simp [h]
    rw [show 8+(i - 8)=i from by omega]; simp [hi]
 have h2:steps 8 ((w >>> 8) <<< 8)=w >>> 8:=by
  have:=steps_shift 0 8 (w >>> 8) (by intro i hi; simp; exact BitVec.getLsbD_of_ge _ _ (by omega))
  simpa [steps] using this
 conv=>lhs; rw [h]
 rw [steps_xor,h2]; rfl
theorem tab_succ (k:Nat) (b:BitVec 8):tab (k+1) b=tab 0 ((tab k b).setWidth 8) ^^^ (tab k b >>> 8):=by
 rw [← steps8_tab]; unfold tab; rw [← steps_add]; rfl
theorem one_eq (r:BitVec 32) (b:BitVec 8):upd r b=tab 0 (r.setWidth 8 ^^^ b) ^^^ (r >>> 8):=by
 unfold upd; rw [steps8_tab]
 congr 1
 · congr 1; ext i hi; simp [ext]
 · ext i hi; simp [ext]
def word4 (a b c d:BitVec 8):BitVec 32:=ext a ||| ext b <<< 8 ||| ext c <<< 16 ||| ext d <<< 24
theorem word4_xor (a b c d:BitVec 8):word4 a b c d=ext a ^^^ ext b <<< 8 ^^^ ext c <<< 16 ^^^ ext d <<< 24:=by
 unfold word4
 ext i hi
 simp [ext]
 by_cases h1:i < 8
 · simp [h1,show i < 16 from by omega,show i < 24 from by omega]
 ·
  by_cases h2:i < 16
  · simp [h1,h2,show i < 24 from by omega,BitVec.getLsbD_of_ge a i (by omega)]
  · by_cases h3:i < 24
    · simp [h1,h2,h3,BitVec.getLsbD_of_ge a i (by omega),BitVec.getLsbD_of_ge b (i - 8) (by omega)]
    · simp [h1,h2,h3,BitVec.getLsbD_of_ge a i (by omega),BitVec.getLsbD_of_ge b (i - 8) (by omega),BitVec.getLsbD_of_ge c (i - 16) (by omega)]
theorem word4_of (y:BitVec 32):y=word4 (y.setWidth 8) ((y >>> 8).setWidth 8) ((y >>> 16).setWidth 8) ((y >>> 24).setWidth 8):=by
 unfold word4
 ext i hi
 simp [ext]
 by_cases h1:i < 8
 · simp [h1,hi,show i < 16 from by omega,show i < 24 from by omega]
 ·
  by_cases h2:i < 16
  · simp [h1,h2,show i < 24 from by omega,show i - 8 < 8 from by omega,show 8+(i - 8)=i from by omega,hi]
  · by_cases h3:i < 24
    · simp [h1,h2,h3,show ¬ i - 8 < 8 from by omega,show i - 16 < 8 from by omega,show 16+(i - 16)=i from by omega,hi]
    · simp [h1,h2,h3,show ¬ i - 8 < 8 from by omega,show ¬ i - 16 < 8 from by omega,show i - 24 < 8 from by omega,show 24+(i - 24)=i from by omega,hi]
theorem ext_low (k:Nat) (hk:k≤24) (b:BitVec 8):∀ i,32 - k≤i→(ext b).getLsbD i=false:=fun i hi=>ext_high b i (by omega)
theorem steps32_word4 (a b c d:BitVec 8):steps 32 (word4 a b c d)=tab 3 a ^^^ tab 2 b ^^^ tab 1 c ^^^ tab 0 d:=by
 rw [word4_xor,steps_xor,steps_xor,steps_xor]
 have h1:steps 32 (ext b <<< 8)=tab 2 b:=steps_shift 24 8 (ext b) (ext_low 8 (by omega) b)
 have h2:steps 32 (ext c <<< 16)=tab 1 c:=steps_shift 16 16 (ext c) (ext_low 16 (by omega) c)
 have h3:steps 32 (ext d <<< 24)=tab 0 d:=steps_shift 8 24 (ext d) (ext_low 24 (by omega) d)
 rw [h1,h2,h3]; rfl
theorem upd_back (k:Nat) (hk:k≤24) (r:BitVec 32) (b:BitVec 8):upd (steps k r) b=steps (k+8) (r ^^^ ext b <<< k):=by
 unfold upd
 have h:=steps_shift 0 k (ext b) (ext_low k hk b)
 simp only [Nat.add_zero,steps] at h
 rw [steps_add k 8,steps_xor k,h]
theorem four_eq (x:BitVec 32) (a b c d:BitVec 8) :
 upd (upd (upd (upd x a) b) c) d=tab 3 ((x ^^^ word4 a b c d).setWidth 8) ^^^ tab 2 (((x ^^^ word4 a b c d) >>> 8).setWidth 8) ^^^ tab 1 (((x ^^^ word4 a b c d) >>> 16).setWidth 8) ^^^ tab 0 (((x ^^^ word4 a b c d) >>> 24).setWidth 8):=by
 rw [← steps32_word4,← word4_of,word4_xor]
 rw [show upd x a=steps 8 (x ^^^ ext a) from rfl,upd_back 8 (by omega),upd_back 16 (by omega),upd_back 24 (by omega)]
 congr 1
 simp only [BitVec.xor_assoc]
/-! a turned byte shows -/
/-! the sum is linear -/
def sum (l:List UInt8):BitVec 32 := ~~~ reg (BitVec.allOnes 32) l
def be4 (n:Nat):List UInt8:=[UInt8.ofNat (n / 16777216),UInt8.ofNat (n / 65536),UInt8.ofNat (n / 256),UInt8.ofNat n]
def sealed (l:List UInt8):List UInt8:=be4 (sum l).toNat++l
theorem sealed_drop (l:List UInt8):(sealed l).drop 4=l:=rfl
theorem sealed_length (l:List UInt8):(sealed l).length=4+l.length:=by simp [sealed,be4]; omega
end Go.Proofs.YtnoehodmmkioaaaGreatDoor.CrcMath
namespace Go.Proofs.YtnoehodmmkioaaaGreatDoor.NameMath
open Go.RowKit OctMath
def signN (n:Nat):Bool:=(decide (97≤n) && decide (n≤122)) || (decide (48≤n) && decide (n≤57)) || n == 45
def signB (c:UInt8):Bool:=signN c.toNat
def plainL (l:List UInt8):Bool:=decide (1≤l.length) && decide (l.length≤16) && l.all signB
def groupL (l:List UInt8):Bool:=plainL l && decide (l.length≤8)
theorem signN_big (n:Nat) (h:128≤n):signN n=false:=by
 unfold signN
 rw [decide_eq_false (show ¬ n≤122 by omega),decide_eq_false (show ¬ n≤57 by omega),Bool.and_false,Bool.and_false]
 exact beq_eq_false_iff_ne.2 (by omega)
theorem get_S (l:List UInt8) (i:Nat) (h:i < l.length):(S l).get! i=l[i]:=by
 show (l.toArray)[i]! = _
 simp [h]
theorem decode_ascii (l:List UInt8) (i:Nat) (h:i < l.length) (hb:l[i].toNat < 128):Utf8.decode (S l) i=(l[i].toNat,1):=by
 unfold Utf8.decode
 simp only [Nat.add_zero,get_S l i h,if_pos hb]
theorem decode_big (l:List UInt8) (i:Nat) (h:i < l.length) (hb:¬ l[i].toNat < 128):128≤(Utf8.decode (S l) i).1:=by
 unfold Utf8.decode
 simp only [Nat.add_zero,get_S l i h,if_neg hb]
 have he:128≤Utf8.runeError:=by decide
 (repeat' split) <;> first | exact he | (simp only []; omega) | (rename_i hc; simp only [Bool.and_eq_true,decide_eq_true_eq] at hc; have:=hc.1; simp only []; omega)
theorem idx_from (l:List UInt8):∀ f pos:Nat,l.length≤pos+f→(Lib.idxFuncFrom (fun n=>!signN n) true (S l) f pos = -1↔(l.drop pos).all signB=true)
 | 0,pos,h=>by
   rw [List.drop_of_length_le (by omega)]
   exact ⟨fun _=>rfl,fun _=>rfl⟩
 | f+1,pos,h=>by
   unfold Lib.idxFuncFrom
   rw [S_size]
   by_cases hp:pos < l.length
   ·
    rw [if_pos hp,List.drop_eq_getElem_cons hp,List.all_cons]
    by_cases hb:l[pos].toNat < 128
    ·
     rw [decode_ascii l pos hp hb]
     simp only []
     have hs:signB l[pos]=signN l[pos].toNat:=rfl
     rw [hs]
     cases signN l[pos].toNat with
     | true =>
       rw [if_neg (by simp),Bool.true_and]
       exact idx_from l f (pos+1) (by omega)
     | false =>
       rw [if_pos (by simp),Bool.false_and]
       exact ⟨fun h=>by omega,fun h=>by simp at h⟩
    · have h1:=signN_big _ (decode_big l pos hp hb)
      have h2:signB l[pos]=false:=signN_big _ (by omega)
      rw [h1,h2,if_pos (by simp),Bool.false_and]
      exact ⟨fun h=>by omega,fun h=>by simp at h⟩
   · rw [if_neg hp,List.drop_of_length_le (by omega)]
     exact ⟨fun _=>rfl,fun _=>rfl⟩
theorem idx_lt (l:List UInt8):decide (Lib.idxFunc (fun n=>!signN n) true (S l) < (0:Int))=l.all signB:=by
 have h:=idx_from l (S l).size 0 (by rw [S_size]; omega)
 rw [List.drop_zero] at h
 have hr:=Lib.idxFunc_range (fun n=>!signN n) true (S l)
 have he:Lib.idxFunc (fun n=>!signN n) true (S l)=Lib.idxFuncFrom (fun n=>!signN n) true (S l) (S l).size 0:=rfl
 rw [← he] at h
 cases hb:l.all signB with
 | true=>rw [hb] at h; rw [h.2 rfl]; rfl
 | false =>
   rw [hb] at h
   rcases hr with h1 | h1
   · exact absurd (h.1 h1) (by simp)
   · exact decide_eq_false (by omega)
theorem plain_eq (l:List UInt8):plainL l=(decide (l≠[]) && decide (l.length≤16) && decide (Lib.idxFunc (fun n=>!signN n) true (S l) < (0:Int))):=by
 rw [idx_lt]; unfold plainL
 congr 2
 cases l <;> simp
def retryL:List UInt8:=[37,114,101,116,114,121,37]
def deadL:List UInt8:=[37,100,101,97,100,37]
def ofL (l:List UInt8):List UInt8 :=
 if (Lib.hasPrefix l retryL && groupL (l.drop 7))=true then l.drop 7
 else if (Lib.hasPrefix l deadL && groupL (l.drop 6))=true then l.drop 6 else []
def topicL (l:List UInt8):Bool:=plainL l || !(ofL l).isEmpty
theorem group_ne (l:List UInt8) (h:groupL l=true):l.isEmpty=false:=by
 cases l with
 | nil=>simp [groupL,plainL] at h
 | cons _ _=>rfl
end Go.Proofs.YtnoehodmmkioaaaGreatDoor.NameMath
namespace Go.Proofs.YtnoehodmmkioaaaGreatDoor.RecMath
open OctMath OctW NameMath
structure Msg where
 kind:Int
 queue:Int
 due:Int
 retry:Int
 ref:Int
 born:Int
 topic:List UInt8
 tag:List UInt8
 body:List UInt8
 keys:List (List UInt8)
deriving DecidableEq
def noMsg:Msg:=⟨0,0,0,0,0,0,[],[],[],[]⟩
def badNum (n:Int):Bool:=decide (n < 0) || decide (1099511627776 < n)
def keySign (c:UInt8):Bool:=decide (33≤c.toNat) && decide (c.toNat≤126)
def keyL (l:List UInt8):Bool:=decide (l≠[]) && decide (l.length≤16) && l.all keySign
def tagL (l:List UInt8):Bool:=l.isEmpty || plainL l
def carriesL (m:Msg):Bool:=topicL m.topic && decide (0≤m.queue) && decide (m.queue < 3) && decide (0≤m.retry) && decide (m.retry≤4) && tagL m.tag && decide (m.keys.length≤3) && m.keys.all keyL && decide m.keys.Nodup && decide (m.body.length≤200)
def noughts (n:Nat):List UInt8:=List.replicate n 0
def rightL (m:Msg):Bool :=
 if badNum m.due || badNum m.ref || badNum m.born then false
 else if m.kind=1 then carriesL m && decide (m.due=0) && decide (m.ref=0)
 else if m.kind=2∨m.kind=3 then carriesL m
 else if m.kind=4 then decide (m={ noMsg with kind:=4,ref:=m.ref,born:=m.born })
 else if m.kind=0 then decide (m.body.length≤1024) && decide (m.body=noughts m.body.length) && decide (m={ noMsg with body:=m.body })
 else false
def fillL (n:Int):List UInt8:=if n < 3∨1024 < n then [] else 90 :: be 2 n.toNat++noughts (n.toNat - 3)
def insideL (m:Msg):List UInt8 :=
 be 1 m.kind.toNat++(be 1 m.queue.toNat++(be 1 m.retry.toNat++(be 6 m.born.toNat++(be 6 m.due.toNat++(be 6 m.ref.toNat++(textL m.topic++(textL m.tag++(textL m.body++(be 1 m.keys.length++textsL m.keys)))))))))
def recL (m:Msg):List UInt8:=165 :: be 2 (3+(CrcMath.sealed (insideL m)).length)++CrcMath.sealed (insideL m)
def putL (m:Msg):List UInt8×Int:=if rightL m=false then ([],1) else if m.kind=0 then (if m.body.length < 3 then ([],1) else (fillL m.body.length,0)) else (recL m,0)
def openedR (s:List UInt8):Msg×RS :=
 let k:=numR 1 ⟨s,0⟩
 let q:=numR 1 k.2
 let rt:=numR 1 q.2
 let b:=numR 6 rt.2
 let d:=numR 6 b.2
 let rf:=numR 6 d.2
 let t:=textR 16 rf.2
 let g:=textR 16 t.2
 let bo:=textR 200 g.2
 let ks:=listR 3 16 bo.2
 (⟨k.1,q.1,d.1,rt.1,rf.1,b.1,t.1,g.1,bo.1,ks.1⟩,ks.2)
def openedB (s:List UInt8):Bool:=decide (endR (openedR s).2=0) && decide ((openedR s).1.kind≠0) && rightL (openedR s).1
theorem plain_len {l:List UInt8} (h:plainL l=true):l.length≤16:=by
 unfold plainL at h
 simp only [Bool.and_eq_true,decide_eq_true_eq] at h
 exact h.1.2
theorem topic_len {l:List UInt8} (h:topicL l=true):l.length≤16:=by
 unfold topicL at h
 rw [Bool.or_eq_true] at h
 rcases h with h | h
 · exact plain_len h
 ·
  have hg:∀ l:List UInt8,groupL l=true→l.length≤8:=fun l h=>by
   unfold groupL at h
   simp only [Bool.and_eq_true,decide_eq_true_eq] at h
   exact h.2
  unfold ofL at h
  split at h
  · rename_i h1
    have:=hg _ (Bool.and_eq_true_iff.1 h1).2
    rw [List.length_drop] at this; omega
  ·
   split at h
   · rename_i h1
     have:=hg _ (Bool.and_eq_true_iff.1 h1).2
     rw [List.length_drop] at this; omega
   · cases h
theorem right_parts {m:Msg} (h:rightL m=true) (h0:m.kind≠0):(0≤m.due∧m.due≤1099511627776)∧(0≤m.ref∧m.ref≤1099511627776)∧(0≤m.born∧m.born≤1099511627776)∧(1≤m.kind∧m.kind≤4)∧(0≤m.queue∧m.queue < 3)∧(0≤m.retry∧m.retry≤4) ∧
 m.topic.length≤16∧m.tag.length≤16∧m.body.length≤200∧m.keys.length≤3∧(∀ t∈m.keys,t.length≤16):=by
 have hc:∀ m:Msg,carriesL m=true→(0≤m.queue∧m.queue < 3)∧(0≤m.retry∧m.retry≤4)∧m.topic.length≤16∧m.tag.length≤16∧m.body.length≤200∧m.keys.length≤3∧(∀ t∈m.keys,t.length≤16):=by
  intro m h
  unfold carriesL at h
  simp only [Bool.and_eq_true,decide_eq_true_eq] at h
  obtain ⟨⟨⟨⟨⟨⟨⟨⟨⟨h1,h2⟩,h3⟩,h4⟩,h5⟩,h6⟩,h7⟩,h8⟩,_⟩,h9⟩:=h
  refine ⟨⟨h2,h3⟩,⟨h4,h5⟩,topic_len h1,?_,h9,h7,fun t ht=>?_⟩
  ·
   unfold tagL at h6
   rw [Bool.or_eq_true] at h6
   rcases h6 with h6 | h6
   · rw [List.isEmpty_iff.1 h6]; exact Nat.zero_le _
   · exact plain_len h6
  · have:=List.all_eq_true.1 h8 t ht
    unfold keyL at this
    simp only [Bool.and_eq_true,decide_eq_true_eq] at this
    exact this.1.2
 unfold rightL at h
 split at h
 · cases h
 ·
  rename_i hb
  simp only [badNum,Bool.or_eq_true,decide_eq_true_eq,not_or,Int.not_lt] at hb
  obtain ⟨⟨⟨d1,d2⟩,r1,r2⟩,b1,b2⟩:=hb
  refine ⟨⟨d1,d2⟩,⟨r1,r2⟩,⟨b1,b2⟩,?_⟩
  split at h
  · rename_i hk
    simp only [Bool.and_eq_true] at h
    exact ⟨by omega,hc m h.1.1⟩
  ·
   split at h
   · rename_i hk
     exact ⟨by omega,hc m h⟩
   ·
    split at h
    · rename_i hk
      have h:=of_decide_eq_true h
      rw [h]
      refine ⟨by show (1:Int)≤4∧(4:Int)≤4; omega,⟨by show (0:Int)≤0; omega,by show (0:Int) < 3; omega⟩,⟨by show (0:Int)≤0; omega,by show (0:Int)≤4; omega⟩,?_⟩
      exact ⟨Nat.zero_le _,Nat.zero_le _,Nat.zero_le _,Nat.zero_le _,fun t ht=>by cases ht⟩
    · first
      | cases h
      | (rw [if_neg h0] at h; cases h)
theorem opened_put (m:Msg) (h:rightL m=true) (h0:m.kind≠0):openedR (insideL m)=(m,⟨[],0⟩):=by
 obtain ⟨⟨d1,d2⟩,⟨r1,r2⟩,⟨b1,b2⟩,⟨k1,k2⟩,⟨q1,q2⟩,⟨t1,t2⟩,l1,l2,l3,l4,l5⟩:=right_parts h h0
 have e1:∀ (x:Int) (rest:List UInt8),0≤x→x≤4→numR 1 ⟨be 1 x.toNat++rest,0⟩=(x.toNat,⟨rest,0⟩):=fun x rest h1 h2=>numR_be 1 x.toNat rest (by omega) (by omega) (by omega)
 have e6:∀ (x:Int) (rest:List UInt8),0≤x→x≤1099511627776→numR 6 ⟨be 6 x.toNat++rest,0⟩=(x.toNat,⟨rest,0⟩):=fun x rest h1 h2=>numR_be 6 x.toNat rest (by omega) (by omega) (by omega)
 unfold openedR insideL
 simp only
 rw [e1 m.kind _ (by omega) (by omega)]
 simp only
 rw [e1 m.queue _ q1 (by omega)]
 simp only
 rw [e1 m.retry _ t1 (by omega)]
 simp only
 rw [e6 m.born _ b1 b2]
 simp only
 rw [e6 m.due _ d1 d2]
 simp only
 rw [e6 m.ref _ r1 r2]
 simp only
 rw [textR_text 16 m.topic _ (by omega) (by omega)]
 simp only
 rw [textR_text 16 m.tag _ (by omega) (by omega)]
 simp only
 rw [textR_text 200 m.body _ (by omega) (by omega)]
 simp only
 have hl:=listR_list 3 16 [] m.keys (by omega) (by omega) (fun t ht=>⟨by have:=l5 t ht; omega,by have:=l5 t ht; omega⟩)
 rw [List.append_nil] at hl
 rw [hl]
 simp only
 rw [Int.toNat_of_nonneg (by omega:0≤m.kind),Int.toNat_of_nonneg q1,Int.toNat_of_nonneg d1,Int.toNat_of_nonneg t1,Int.toNat_of_nonneg r1,Int.toNat_of_nonneg b1]
theorem inside_len {m:Msg} (h:rightL m=true) (h0:m.kind≠0):(insideL m).length≤500:=by
 obtain ⟨_,_,_,_,_,_,l1,l2,l3,l4,l5⟩:=right_parts h h0
 have hk:∀ ks:List (List UInt8),(∀ t∈ks,t.length≤16)→(textsL ks).length≤18 * ks.length:=by
  intro ks
  induction ks with
  | nil=>intro _; exact Nat.le_refl _
  | cons t ks ih =>
    intro hh
    rw [textsL_cons,List.length_append,textL_length,List.length_cons]
    have:=hh t (.head _)
    have:=ih fun t ht=>hh t (.tail _ ht)
    omega
 have:=hk m.keys l5
 unfold insideL
 simp only [List.length_append,be_length,textL_length]
 omega
theorem rec_len {m:Msg} (h:rightL m=true) (h0:m.kind≠0):(recL m).length=7+(insideL m).length∧(recL m).length≤507:=by
 have:=inside_len h h0
 have e:(recL m).length=7+(insideL m).length:=by
  unfold recL
  rw [List.cons_append,List.length_cons,List.length_append,be_length,CrcMath.sealed_length]; omega
 exact ⟨e,by omega⟩
theorem fill_len {n:Nat} (h:3≤n) (h2:n≤1024):(fillL (n:Int)).length=n:=by
 unfold fillL
 rw [if_neg (by omega),Int.toNat_natCast]
 simp only [List.cons_append,List.length_cons,List.length_append,be_length,noughts,List.length_replicate]
 omega
end Go.Proofs.YtnoehodmmkioaaaGreatDoor.RecMath
namespace Go.Proofs.YtnoehodmmkioaaaGreatDoor.TapeMath
open OctMath RecMath
inductive Item where
 | one (m:Msg)
 | fill (n:Nat)
def Item.bytes:Item→List UInt8
 | .one m=>recL m
 | .fill n=>fillL (n:Int)
def Item.ok:Item→Prop
 | .one m=>rightL m=true∧m.kind≠0
 | .fill n=>3≤n∧n≤1024
def Item.len (x:Item):Nat:=x.bytes.length
def bytesL (l:List Item):List UInt8:=l.flatMap Item.bytes
theorem bytesL_cons (x:Item) (l:List Item):bytesL (x :: l)=x.bytes++bytesL l:=rfl
theorem bytesL_app (a b:List Item):bytesL (a++b)=bytesL a++bytesL b:=by unfold bytesL; simp
theorem Item.len_ge {x:Item} (h:x.ok):3≤x.len∧x.len≤1024:=by
 cases x with
 | one m =>
   have:=rec_len h.1 h.2
   show 3≤(recL m).length∧(recL m).length≤1024
   omega
 | fill n =>
   have:=fill_len h.1 h.2
   show 3≤(fillL (n:Int)).length∧(fillL (n:Int)).length≤1024
   rw [this]; exact h
def Lies (p:Nat) (x:Item):Prop:=x.ok∧p % 1024+x.len≤1024∧3≤1024 - (p+x.len) % 1024
def Fits:Nat→List Item→Prop
 | _,[]=>True
 | p,x :: l=>Lies p x∧Fits (p+x.len) l
def recsOf:Nat→List Item→List (Nat×Msg)
 | _,[]=>[]
 | p,.one m :: l=>(p,m) :: recsOf (p+(Item.one m).len) l
 | p,.fill n :: l=>recsOf (p+(Item.fill n).len) l
theorem Fits.app {p:Nat} {a b:List Item}:Fits p (a++b)↔Fits p a∧Fits (p+(bytesL a).length) b:=by
 induction a generalizing p with
 | nil=>simp [Fits,bytesL]
 | cons x a ih =>
   rw [List.cons_append]
   show Lies p x∧Fits (p+x.len) (a++b)↔(Lies p x∧Fits (p+x.len) a)∧Fits (p+(bytesL (x :: a)).length) b
   rw [ih,bytesL_cons,List.length_append]
   unfold Item.len
   rw [Nat.add_assoc,and_assoc]
theorem recs_app {p:Nat} {a b:List Item}:recsOf p (a++b)=recsOf p a++recsOf (p+(bytesL a).length) b:=by
 induction a generalizing p with
 | nil=>simp [recsOf,bytesL]
 | cons x a ih =>
   rw [List.cons_append,bytesL_cons,List.length_append]
   cases x with
   | one m =>
     show (p,m) :: recsOf (p+(Item.one m).len) (a++b)=((p,m) :: recsOf (p+(Item.one m).len) a)++_
     rw [ih,List.cons_append]
     unfold Item.len
     rw [Nat.add_assoc]
   | fill n =>
     show recsOf (p+(Item.fill n).len) (a++b)=recsOf (p+(Item.fill n).len) a++_
     rw [ih]
     unfold Item.len
     rw [Nat.add_assoc]
theorem recs_mem {p:Nat} {its:List Item} (hf:Fits p its) {id:Nat} {m:Msg} (h:(id,m)∈recsOf p its) :
 ∃ a c,its=a++Item.one m :: c∧id=p+(bytesL a).length:=by
 induction its generalizing p with
 | nil=>cases h
 | cons x l ih =>
   unfold Fits at hf
   cases x with
   | one m' =>
     unfold recsOf at h
     rcases List.mem_cons.1 h with h | h
     · cases h
       exact ⟨[],l,rfl,rfl⟩
     · obtain ⟨a,c,e1,e2⟩:=ih hf.2 h
       exact ⟨.one m' :: a,c,by rw [e1]; rfl,by rw [e2,bytesL_cons,List.length_append]; unfold Item.len; omega⟩
   | fill n =>
     unfold recsOf at h
     obtain ⟨a,c,e1,e2⟩:=ih hf.2 h
     exact ⟨.fill n :: a,c,by rw [e1]; rfl,by rw [e2,bytesL_cons,List.length_append]; unfold Item.len; omega⟩
theorem Fits.at {p:Nat} {a c:List Item} {x:Item} (h:Fits p (a++x :: c)):Lies (p+(bytesL a).length) x:=by
 have:=(Fits.app.1 h).2
 exact this.1
theorem read_item {a c:List Item} {x:Item} (k:Nat) (hk:x.len≤k):((bytesL (a++x :: c)).drop (bytesL a).length).take k=x.bytes++(bytesL c).take (k - x.len):=by
 rw [bytesL_app,List.drop_left,bytesL_cons,List.take_append]
 unfold Item.len at *
 rw [List.take_of_length_le hk]
theorem recs_sorted {p:Nat} {its:List Item} (hf:Fits p its):(∀ q∈recsOf p its,p≤q.1)∧((recsOf p its).map (·.1)).Pairwise (· < ·):=by
 induction its generalizing p with
 | nil=>exact ⟨fun q hq=>(by cases hq),List.Pairwise.nil⟩
 | cons x l ih =>
   unfold Fits at hf
   obtain ⟨h1,h2⟩:=ih hf.2
   have hl:=(Item.len_ge hf.1.1).1
   cases x with
   | one m =>
     unfold recsOf
     refine ⟨fun q hq=>?_,?_⟩
     · rcases List.mem_cons.1 hq with rfl | hq
       · exact Nat.le_refl _
       · have:=h1 q hq; omega
     · rw [List.map_cons,List.pairwise_cons]
       refine ⟨fun u hu=>?_,h2⟩
       obtain ⟨q,hq,rfl⟩:=List.mem_map.1 hu
       have:=h1 q hq
       show p < q.1
       omega
   | fill n =>
     unfold recsOf
     exact ⟨fun q hq=>by have:=h1 q hq; omega,h2⟩
theorem recs_lt {p:Nat} {its:List Item} (hf:Fits p its) {id:Nat} {m:Msg} (h:(id,m)∈recsOf p its):id+(recL m).length≤p+(bytesL its).length∧p≤id:=by
 obtain ⟨a,c,rfl,rfl⟩:=recs_mem hf h
 rw [bytesL_app,bytesL_cons,List.length_append,List.length_append]
 show _+(Item.one m).bytes.length≤_∧_
 omega
def roomL (e:Nat):Nat:=1024 - e % 1024
def laidOf (e:Nat) (m:Msg):List Item:=if roomL e=(recL m).length∨(recL m).length+3≤roomL e then [.one m] else [.fill (roomL e),.one m]
theorem loose_of {p:Nat} {its:List Item} (hf:Fits p its) (hp:p % 1024=0):3≤roomL (p+(bytesL its).length):=by
 rcases List.eq_nil_or_concat its with rfl | ⟨l,x,rfl⟩
 · unfold roomL bytesL
   show 3≤1024 - (p+0) % 1024
   omega
 ·
  rw [List.concat_eq_append] at *
  have:=(Fits.at (c:=[]) hf).2.2
  rw [bytesL_app,bytesL_cons,List.length_append,List.length_append]
  show 3≤1024 - (p+((bytesL l).length+(x.len+0))) % 1024
  rw [Nat.add_zero,← Nat.add_assoc]
  exact this
theorem laid_fits {p:Nat} {its:List Item} (hf:Fits p its) (hp:p % 1024=0) {m:Msg} (hm:rightL m=true) (h0:m.kind≠0):Fits p (its++laidOf (p+(bytesL its).length) m):=by
 refine Fits.app.2 ⟨hf,?_⟩
 have hr:=loose_of hf hp
 generalize p+(bytesL its).length=e at *
 have hl:=rec_len hm h0
 unfold laidOf
 split
 ·
  rename_i h
  refine ⟨⟨⟨hm,h0⟩,?_,?_⟩,trivial⟩
  · show e % 1024+(recL m).length≤1024
    unfold roomL at *; omega
  · show 3≤1024 - (e+(recL m).length) % 1024
    unfold roomL at *; omega
 ·
  rename_i h
  have hfl:(Item.fill (roomL e)).len=roomL e:=fill_len hr (by unfold roomL; omega)
  have hmod:(e+roomL e) % 1024=0:=by unfold roomL; omega
  refine ⟨⟨⟨hr,by unfold roomL; omega⟩,?_,?_⟩,⟨⟨hm,h0⟩,?_,?_⟩,trivial⟩
  · rw [hfl]; unfold roomL; omega
  · rw [hfl,hmod]; omega
  · rw [hfl,hmod]
    show 0+(recL m).length≤1024
    omega
  · rw [hfl]
    show 3≤1024 - (e+roomL e+(recL m).length) % 1024
    omega
end Go.Proofs.YtnoehodmmkioaaaGreatDoor.TapeMath
namespace Go.Proofs.YtnoehodmmkioaaaGreatDoor.SegW
open OctMath
def digs:List UInt8:=[48,49,50,51,52,53,54,55,56,57]
def dig (c:UInt8):Bool:=decide (48≤c.toNat) && decide (c.toNat≤57)
theorem dig_digs (c:UInt8):digs.contains c=dig c:=by
 have h:∀ k:Fin 256,digs.contains (UInt8.ofNat k.val)=dig (UInt8.ofNat k.val):=by decide +kernel
 have:=h ⟨c.toNat,c.toNat_lt⟩
 simpa using this
def numFrom (a:Nat):List UInt8→Nat
 | []=>a
 | c :: l=>numFrom (a * 10+(c.toNat - 48)) l
def numL (l:List UInt8):Nat:=numFrom 0 l
theorem numFrom_append (a b:List UInt8) (x:Nat):numFrom x (a++b)=numFrom (numFrom x a) b:=by
 induction a generalizing x with
 | nil=>rfl
 | cons c a ih=>exact ih _
theorem numFrom_lt:∀ (l:List UInt8) (a:Nat),(∀ c∈l,dig c=true)→numFrom a l < (a+1) * 10 ^ l.length
 | [],a,_=>by show a < _; simp
 | c :: l,a,h=>by
   have hc:=h c (.head _)
   simp [dig] at hc
   have:=numFrom_lt l (a * 10+(c.toNat - 48)) (fun x hx=>h x (.tail _ hx))
   show numFrom (a * 10+(c.toNat - 48)) l < _
   rw [List.length_cons,Nat.pow_succ]
   refine Nat.lt_of_lt_of_le this ?_
   rw [Nat.mul_comm (10 ^ l.length) 10,← Nat.mul_assoc]
   exact Nat.mul_le_mul_right _ (by omega)
theorem numL_lt (l:List UInt8) (h:∀ c∈l,dig c=true):numL l < 10 ^ l.length:=by have:=numFrom_lt l 0 h; rw [Nat.zero_add,Nat.one_mul] at this; exact this
theorem parse_num:∀ (l:List UInt8) (a:Nat),(∀ c∈l,dig c=true)→numFrom a l < 1000000000000000→Lib.parseUint10 a l=.ok (numFrom a l)
 | [],a,_,_=>rfl
 | c :: l,a,h,hn=>by
   have hc:=h c (.head _)
   simp [dig] at hc
   have hle:∀ (l:List UInt8) (a:Nat),a≤numFrom a l:=by
    intro l
    induction l with
    | nil=>intro a; exact Nat.le_refl _
    | cons c l ih=>intro a; exact Nat.le_trans (by omega) (ih _)
   have h1:=hle l (a * 10+(c.toNat - 48))
   have hn':numFrom (a * 10+(c.toNat - 48)) l < 1000000000000000:=hn
   unfold Lib.parseUint10
   rw [if_pos ⟨hc.1,hc.2⟩,if_neg (by omega),if_neg (by omega)]
   exact parse_num l _ (fun x hx=>h x (.tail _ hx)) hn'
theorem atoi_num (l:List UInt8) (h0:l≠[]) (h8:l.length≤8) (h:∀ c∈l,dig c=true):Lib.atoiAll l=.ok (numL l:Int):=by
 match l,h0 with
 | c :: r,_ =>
   have hc:=h c (.head _)
   simp [dig] at hc
   have hlt:=numL_lt _ h
   have hp:10 ^ (c :: r).length≤10 ^ 8:=Nat.pow_le_pow_right (by omega) h8
   have hl:numL (c :: r) < 100000000:=Nat.lt_of_lt_of_le hlt hp
   unfold Lib.atoiAll
   simp only
   rw [if_neg (by omega:¬ (c.toNat=43∨c.toNat=45))]
   have hm:Lib.parseMag (c :: r)=.ok (numL (c :: r)):=by
    unfold Lib.parseMag
    rw [if_neg (by simp)]
    exact parse_num _ 0 h (Nat.lt_of_lt_of_le hl (by omega))
   rw [hm]
   simp only
   rw [if_neg (by omega),if_neg (by omega),if_neg (by omega)]
theorem trim_digs (l:List UInt8):Lib.trimS l digs=[]↔∀ c∈l,dig c=true:=by
 unfold Lib.trimS Lib.trimLeftS Lib.trimRightS
 have h1:(fun x=>digs.contains x)=dig:=funext dig_digs
 simp only [h1]
 have hnil:∀ m:List UInt8,m.dropWhile dig=[]↔∀ c∈m,dig c=true:=by
  intro m
  induction m with
  | nil=>simp
  | cons x m ih =>
    by_cases hx:dig x=true
    ·
     rw [List.dropWhile_cons_of_pos hx,ih]
     constructor
     · intro h c hc
       rcases List.mem_cons.1 hc with rfl | hc
       · exact hx
       · exact h c hc
     · intro h c hc; exact h c (.tail _ hc)
    · rw [List.dropWhile_cons_of_neg hx]
      constructor
      · intro h; cases h
      · intro h; exact absurd (h x (.head _)) hx
 rw [hnil]
 constructor
 ·
  intro h
  have key:∀ (m:List UInt8),(∀ c∈(m.dropWhile dig),dig c=true)→∀ c∈m,dig c=true:=by
   intro m
   induction m with
   | nil=>intro _ c hc; cases hc
   | cons x m ih =>
     intro hm c hc
     by_cases hx:dig x=true
     · rw [List.dropWhile_cons_of_pos hx] at hm
       rcases List.mem_cons.1 hc with rfl | hc
       · exact hx
       · exact ih hm c hc
     · rw [List.dropWhile_cons_of_neg hx] at hm
       exact hm c hc
  intro c hc
  exact key l.reverse (fun x hx=>h x (by simpa using hx)) c (by simpa using hc)
 · intro h c hc
   have h2:c∈l.reverse.dropWhile dig:=by simpa using hc
   exact h c (by simpa using (List.dropWhile_suffix dig).subset h2)
/-! names -/
def padL (n:Nat):List UInt8:=List.replicate (8 - (Lib.decDigits n).length) 48++Lib.decDigits n
def nameL (head:List UInt8) (n:Nat):List UInt8:=head++padL n
def placeL (head name:List UInt8):Option Nat :=
 if Lib.hasPrefix name head=true∧(name.drop head.length).length=8∧∀ c∈name.drop head.length,dig c=true then some (numL (name.drop head.length)) else none
theorem dec_dig (u:Nat):∀ c∈Lib.decDigits u,dig c=true:=by
 induction u using Nat.strongRecOn with
 | _ u ih =>
   rw [Lib.decDigits]
   by_cases h:u < 10
   · rw [dif_pos h]
     intro c hc
     obtain rfl:=List.mem_singleton.1 hc
     have hh:∀ k:Fin 10,dig (UInt8.ofNat (48+k.val))=true:=by decide +kernel
     exact hh ⟨u,h⟩
   ·
    rw [dif_neg h]
    intro c hc
    rcases List.mem_append.1 hc with hc | hc
    · exact ih (u / 10) (by omega) c hc
    · obtain rfl:=List.mem_singleton.1 hc
      have hh:∀ k:Fin 10,dig (UInt8.ofNat (48+k.val))=true:=by decide +kernel
      exact hh ⟨u % 10,by omega⟩
theorem num_dec (u:Nat):numL (Lib.decDigits u)=u:=by
 induction u using Nat.strongRecOn with
 | _ u ih =>
   rw [Lib.decDigits]
   have hh:∀ k:Fin 10,(UInt8.ofNat (48+k.val)).toNat=48+k.val:=by decide +kernel
   by_cases h:u < 10
   · rw [dif_pos h]
     have:=hh ⟨u,h⟩
     simp only at this
     show 0 * 10+((UInt8.ofNat (48+u)).toNat - 48)=u
     omega
   ·
    rw [dif_neg h]
    have:=hh ⟨u % 10,by omega⟩
    unfold numL at *
    rw [numFrom_append,ih (u / 10) (by omega)]
    show u / 10 * 10+((UInt8.ofNat (48+u % 10)).toNat - 48)=u
    simp only at this
    omega
theorem dec_len (u:Nat) (h:u≤99999999):(Lib.decDigits u).length≤8:=by
 have key:∀ (k u:Nat),u < 10 ^ (k+1)→(Lib.decDigits u).length≤k+1:=by
  intro k
  induction k with
  | zero=>intro u hu; rw [Lib.decDigits_one (by simpa using hu)]; simp
  | succ k ih =>
    intro u hu
    rw [Lib.decDigits]
    by_cases h:u < 10
    · rw [dif_pos h]; simp
    · rw [dif_neg h,List.length_append]
      have:=ih (u / 10) (by rw [Nat.pow_succ] at hu; omega)
      show _+1≤_
      omega
 exact key 7 u (by omega)
theorem pad_len (u:Nat) (h:u≤99999999):(padL u).length=8:=by
 have:=dec_len u h
 unfold padL
 rw [List.length_append,List.length_replicate]
 omega
theorem pad_dig (u:Nat):∀ c∈padL u,dig c=true:=by
 intro c hc
 unfold padL at hc
 rcases List.mem_append.1 hc with hc | hc
 · obtain rfl:=List.eq_of_mem_replicate hc; rfl
 · exact dec_dig u c hc
theorem num_pad (u:Nat):numL (padL u)=u:=by
 unfold padL numL
 have h0:∀ k,numFrom 0 (List.replicate k 48)=0:=by
  intro k
  induction k with
  | zero=>rfl
  | succ k ih=>exact ih
 rw [numFrom_append,h0]
 exact num_dec u
theorem prefix_append (a b:List UInt8):Lib.hasPrefix (a++b) a=true:=by unfold Lib.hasPrefix; rw [List.isPrefixOf_iff_prefix]; exact List.prefix_append a b
theorem place_name (head:List UInt8) (u:Nat) (h:u≤99999999):placeL head (nameL head u)=some u:=by
 unfold placeL nameL
 have hd:(head++padL u).drop head.length=padL u:=List.drop_left
 rw [hd,if_pos ⟨prefix_append _ _,pad_len u h,pad_dig u⟩,num_pad]
theorem name_inj {head:List UInt8} {u v:Nat} (h:nameL head u=nameL head v):u=v:=by
 have:=List.append_cancel_left h
 rw [← num_pad u,this,num_pad]
theorem place_lt {head name:List UInt8} {n:Nat} (h:placeL head name=some n):n≤99999999:=by
 unfold placeL at h
 split at h
 ·
  rename_i h1
  injection h with h
  have:=numL_lt _ h1.2.2
  rw [h1.2.1] at this
  omega
 · cases h
end Go.Proofs.YtnoehodmmkioaaaGreatDoor.SegW
