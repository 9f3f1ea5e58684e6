/-
  Several texts as one.
-/
import Derived.Test.YtgmehlgfilpleaaGreatDoorMG01
import Derived.Test.YtgmehlgfilpleaaGreatDoorMG02
import Derived.Laws.BitsAllLaws
import Derived.Test.YtgmehlgfilpleaaGreatDoorLegC
import Derived.Deep.DeepCutAuto
namespace Go.Proofs.YtgmehlgfilpleaaGreatDoor
open Go.RowKit
set_option linter.unusedVariables false
set_option linter.unusedSimpArgs false

theorem infoFix:(Tryz.prog.info? 38).map (fun i=>(i.zero,i.size,i.bytes))=some (some (.agg #[.string ⟨#[]⟩,.string ⟨#[]⟩,.int .u8 0,.int .i64 0,.int .i64 0,.int .i64 0,.int .i64 0]),7,72):=by kernel_rfl
theorem fxcells_len (l:List Fx):(fxcells l).length=l.length*7:=by
 induction l with
 | nil=>rfl
 | cons p l ih =>
  show(fxc p++fxcells l).length=_
  rw[List.length_append,ih,List.length_cons]
  show 7+_=_
  omega
theorem fxcells_at (l:List Fx):∀(k:Nat) (h:k<l.length) (j:Nat),j<7→(fxcells l)[k*7+j]? = (fxc l[k])[j]? := by
 induction l with
 | nil=>intro k h;simp at h
 | cons p l ih =>
  intro k h j hj
  show(fxc p++fxcells l)[k*7+j]? = _
  have hl:(fxc p).length=7:=rfl
  cases k with
  | zero=>rw[Nat.zero_mul,Nat.zero_add,List.getElem?_append_left (by omega)];rfl
  | succ k =>
   rw[List.getElem?_append_right (by omega),hl,show(k+1)*7+j-7=k*7+j by omega]
   exact ih k (by simpa using h) j hj
def FxsR (w:World) (v:Value) (l:List Fx):Prop:=Rd w 7 v l.length (fxcells l)
theorem FxsR.below {w w':World} {v:Value} {l:List Fx} (h:FxsR w v l) (hb:Below w.heap.size w w'):FxsR w' v l:=Rd.below h hb
theorem FxsR.form {w:World} {v:Value} {l:List Fx} (h:FxsR w v l):∃A c,v=.slice A l.length c∧l.length≤c∧c≤9223372036854775807:=by
 obtain⟨A,c,hv,hc,hm⟩:=Rd.form h
 unfold maxLen at hm
 exact⟨A,c,hv,hc,by omega⟩
structure FxAt (w:World) (g o:Nat) (f:Fx):Prop where
 c0:w.cell? ⟨g,o,none⟩=some (.string (sb f.id))
 c1:w.cell? ⟨g,o+1,none⟩=some (.string (sb f.rg))
 c2:w.cell? ⟨g,o+2,none⟩=some (.int .u8 (f.kd:Int))
 c3:w.cell? ⟨g,o+3,none⟩=some (.int .i64 f.lat)
 c4:w.cell? ⟨g,o+4,none⟩=some (.int .i64 f.lon)
 c5:w.cell? ⟨g,o+5,none⟩=some (.int .i64 f.el)
 c6:w.cell? ⟨g,o+6,none⟩=some (.int .i64 f.ra)
theorem FxsR.at_ {w:World} {v:Value} {l:List Fx} (h:FxsR w v l) {k:Nat} (hk:k<l.length):∃g o c,v=.slice (some ⟨g,o,none⟩) l.length c∧g<w.heap.size∧FxAt w g (o+k*7) l[k]:=by
 obtain⟨hl,A,c,hv,hc,hm,hr⟩:=h
 obtain⟨g,o,rfl,hg,hx⟩:=hr (by omega)
 have key:∀j u,j<7→(fxc l[k])[j]? = some u→w.cell? ⟨g,o+k*7+j,none⟩=some u:=fun j u hj hu=>by
  have:=hx (k*7+j) u (by rw[fxcells_at l k hk j hj];exact hu)
  rwa [←Nat.add_assoc] at this
 exact⟨g,o,c,hv,hg,key 0 _ (by omega) rfl,key 1 _ (by omega) rfl,key 2 _ (by omega) rfl,key 3 _ (by omega) rfl,key 4 _ (by omega) rfl,key 5 _ (by omega) rfl,key 6 _ (by omega) rfl⟩
theorem FxAt.below {w w':World} {g o:Nat} {f:Fx} (h:FxAt w g o f) (hg:g<w.heap.size) {B:Nat} (hb:Below B w w') (hB:g<B):FxAt w' g o f:=by
 have k:∀j,w'.cell? ⟨g,j,none⟩=w.cell? ⟨g,j,none⟩:=fun j=>hb.cell (p:=⟨g,j,none⟩) hB
 exact⟨(k _).trans h.c0,(k _).trans h.c1,(k _).trans h.c2,(k _).trans h.c3,(k _).trans h.c4,(k _).trans h.c5,(k _).trans h.c6⟩
theorem str_eq' {l:List UInt8} {t:ByteArray}:((sb l).toList == t.toList)=decide (l=bl t):=by rw[bl_toList,bl_toList,bl_sb,Bool.eq_iff_iff,beq_iff_eq,decide_eq_true_iff]
def SzL (l:List Fx):Prop:=∀f∈l,f.id.length≤1000000000000000∧f.rg.length≤1000000000000000
theorem SzL.take {l:List Fx} (h:SzL l) (n:Nat):SzL (l.take n):=fun f hf=>h f (List.mem_of_mem_take hf)
theorem SzL.get {l:List Fx} (h:SzL l) {k:Nat} (hk:k<l.length):l[k].id.length≤1000000000000000∧l[k].rg.length≤1000000000000000:=h _ (List.getElem_mem hk)
def findL (l:List Fx) (t:List UInt8):Option Fx:=l.find? fun f=>decide (fxRef f=t)
theorem find_miss {l:List Fx} {t:List UInt8} {k:Nat} (hk:k<l.length) (h:findL (l.take k) t=none) (he:fxRef l[k]≠t):findL (l.take (k+1)) t=none:=by
 unfold findL at h ⊢
 rw[List.take_succ_eq_append_getElem hk,List.find?_append,h]
 simp[he]
theorem find_hit {l:List Fx} {t:List UInt8} {k:Nat} (hk:k<l.length) (h:findL (l.take k) t=none) (he:fxRef l[k]=t):findL l t=some l[k]:=by
 unfold findL at h ⊢
 have hl:l=l.take k++l[k]::l.drop (k+1):=by rw[List.getElem_cons_drop,List.take_append_drop]
 generalize l[k]=p at hl he ⊢
 rw[hl,List.find?_append,h]
 simp[he]
def FindPost (o:Option Fx) (w:World) (e:Ending) (w':World):Prop :=
 e=.returned (.tuple #[.agg #[.string (sb (o.getD fx0).id),.string (sb (o.getD fx0).rg),.int .u8 ((o.getD fx0).kd:Int),.int .i64 (o.getD fx0).lat,.int .i64 (o.getD fx0).lon,.int .i64 (o.getD fx0).el,.int .i64 (o.getD fx0).ra],.bool o.isSome])∧Below w.heap.size w w'
theorem FindPost.some {o:Option Fx} {w w':World} {p:Fx} (h:o=some p) (hb:Below w.heap.size w w') :
  FindPost o w (.returned (.tuple #[.agg #[.string (sb p.id),.string (sb p.rg),.int .u8 (p.kd:Int),.int .i64 p.lat,.int .i64 p.lon,.int .i64 p.el,.int .i64 p.ra],.bool true])) w':=by subst h;exact⟨rfl,hb⟩
theorem FindPost.none {o:Option Fx} {w w':World} (h:o=none) (hb:Below w.heap.size w w') :
  FindPost o w (.returned (.tuple #[.agg #[.string ⟨#[]⟩,.string ⟨#[]⟩,.int .u8 0,.int .i64 0,.int .i64 0,.int .i64 0,.int .i64 0],.bool false])) w':=by subst h;exact⟨rfl,hb⟩
set_option maxRecDepth 100000 in
set_option maxHeartbeats 2000000 in
theorem rfind_any (v:Value) (l:List Fx) (t:ByteArray) (w:World) (h:FxsR w v l) (hz:SzL l) (hN:l.length≤1000000000000) :
  Calls Tryz.prog 84 #[v,.string t] w (FindPost (findL l (bl t)) w):=by
 have K1:Hid (Below w.heap.size w (w.alloc (.cells #[.string ⟨#[]⟩,.string ⟨#[]⟩,.int .u8 0,.int .i64 0,.int .i64 0,.int .i64 0,.int .i64 0] 38))):=(Below.refl _ _).alloc (Nat.le_refl _) _
 have B1:Hid (FxBox (w.alloc (.cells #[.string ⟨#[]⟩,.string ⟨#[]⟩,.int .u8 0,.int .i64 0,.int .i64 0,.int .i64 0,.int .i64 0] 38)) w.heap.size fx0):=heap_alloc_new w _
 obtain⟨A,c,rfl,hcc,hm⟩:=h.form
 have H:=Lib.hid h
 obtain⟨n,hn⟩:∃n,l.length=n:=⟨_,rfl⟩
 have HN:=Lib.hid hn
 rw[hn] at hcc H hN ⊢
 clear h hn
 go_enter Tryz.func84,Tryz.ntmps84
 go_wp2_with fail
 go_loopw [10] (fun i wr=>∃k:Nat,k≤n∧i=.int .i64 k∧Hid (findL (l.take k) (bl t)=none)∧Below w.heap.size w wr∧FxBox wr w.heap.size fx0) (fun i _=>n-(intOf i).toNat)
 case atStart=>exact⟨0,Nat.zero_le _,rfl,rfl,K1.out,B1.out⟩
 case round =>
  obtain⟨k,hk,rfl,hno,hbr,hbx⟩:=hrel
  have hbw:w.heap.size<wr.heap.size:=lt_heap hbx
  by_cases hlt:k<n
  ·have hkl:k<l.length:=by rw[HN.out];exact hlt
   obtain⟨g,o,c',hA,hg,hat⟩:=H.out.at_ hkl
   rw[HN.out] at hA
   simp only[Value.slice.injEq,true_and] at hA
   obtain⟨rfl,rfl⟩:=hA
   have hs:=hz.get hkl
   have HM:=Lib.hid (find_miss (t:=bl t) hkl hno.out)
   have HH:=Lib.hid (find_hit (t:=bl t) hkl hno.out)
   obtain⟨p,hp⟩:∃p,l[k]=p:=⟨_,rfl⟩
   have HP:=Lib.hid hp
   rw[hp] at hat HM HH hs
   obtain⟨c0,c1,c2,c3,c4,c5,c6⟩:=hat.below hg hbr hg
   have hgw:g<wr.heap.size:=Nat.lt_of_lt_of_le hg hbr.size
   have hk1:(k:Int)<(n:Int):=by omega
   have X1:Hid (FxBox (wr.alloc (.cells #[.string (sb p.id),.string (sb p.rg),.int .u8 (p.kd:Int),.int .i64 p.lat,.int .i64 p.lon,.int .i64 p.el,.int .i64 p.ra] 38)) wr.heap.size p):=fxBox_new wr p
   have X0:Hid (FxBox (wr.alloc (.cells #[.string (sb p.id),.string (sb p.rg),.int .u8 (p.kd:Int),.int .i64 p.lat,.int .i64 p.lon,.int .i64 p.el,.int .i64 p.ra] 38)) w.heap.size fx0):=hbx.below ((Below.refl _ _).alloc (Nat.le_refl _) _)
   have XB:Hid (Below w.heap.size w (wr.alloc (.cells #[.string (sb p.id),.string (sb p.rg),.int .u8 (p.kd:Int),.int .i64 p.lat,.int .i64 p.lon,.int .i64 p.el,.int .i64 p.ra] 38))):=hbr.alloc hbr.size _
   clear hat hp hbx
   by_cases he:fxRef p=bl t
   ·have HR:((sb (fxRef p)).toList == t.toList)=true:=by rw[str_eq'];exact decide_eq_true he
    have HH2:=Lib.hid (HH.out he)
    clear he
    go_wp2_with fail
    refine(rfixRef_any p _ hs.1 hs.2).mono ?_
    rintro e w2 ⟨rfl,hb2⟩
    have B2:=X0.out.below hb2
    have HB2:=Lib.hid (XB.out.trans (hb2.mono XB.out.size))
    obtain⟨y0,y1,y2,y3,y4,y5,y6⟩:=(X1.out.below hb2).cells
    have hsz:=lt_heap B2
    have hsz2:=lt_heap (X1.out.below hb2)
    have f0:=frozen_of_row w2 w.heap.size 0 _ _ B2
    have f1:=frozen_of_row w2 w.heap.size 1 _ _ B2
    have f2:=frozen_of_row w2 w.heap.size 2 _ _ B2
    have f3:=frozen_of_row w2 w.heap.size 3 _ _ B2
    have f4:=frozen_of_row w2 w.heap.size 4 _ _ B2
    have f5:=frozen_of_row w2 w.heap.size 5 _ _ B2
    have f6:=frozen_of_row w2 w.heap.size 6 _ _ B2
    obtain⟨z0,z1,z2,z3,z4,z5,z6⟩:=B2.cells
    clear hb2 B2 c0 c1 c2 c3 c4 c5 c6
    go_wp2
    exact bodyPost_ret (v:=.tuple #[.agg #[.string (sb p.id),.string (sb p.rg),.int .u8 (p.kd:Int),.int .i64 p.lat,.int .i64 p.lon,.int .i64 p.el,.int .i64 p.ra],.bool true]) (by simp[results,Tryz.results84,go_sem,z0,z1,z2,z3,z4,z5,z6,hsz]) rfl (FindPost.some (by rw[HH2.out]) (by repeat(first|with_reducible exact HB2.out|with_reducible refine Below.setCell ?_ (by simp) _|with_reducible refine Below.drew ?_|with_reducible refine Below.alloc ?_ (by simp;omega) _)))
   ·have HR:((sb (fxRef p)).toList == t.toList)=false:=by rw[str_eq'];exact decide_eq_false he
    have HM2:=Lib.hid (HM.out he)
    clear he
    go_wp2_with fail
    refine(rfixRef_any p _ hs.1 hs.2).mono ?_
    rintro e w2 ⟨rfl,hb2⟩
    have B2:=X0.out.below hb2
    have HB2:=XB.out.trans (hb2.mono XB.out.size)
    clear hb2 c0 c1 c2 c3 c4 c5 c6
    go_wp2
    go_roundw
    case rel=>exact⟨k+1,hlt,by go_num,HM2.out,HB2,B2⟩
    case measure=>simp[intOf];omega
  ·have hkn:l.take k=l:=List.take_of_length_le (by have:=HN.out;omega)
   have HNO:Hid (findL l (bl t)=none):=by have:=hno.out;rwa [hkn] at this
   have f0:=frozen_of_row wr w.heap.size 0 _ _ hbx
   have f1:=frozen_of_row wr w.heap.size 1 _ _ hbx
   have f2:=frozen_of_row wr w.heap.size 2 _ _ hbx
   have f3:=frozen_of_row wr w.heap.size 3 _ _ hbx
   have f4:=frozen_of_row wr w.heap.size 4 _ _ hbx
   have f5:=frozen_of_row wr w.heap.size 5 _ _ hbx
   have f6:=frozen_of_row wr w.heap.size 6 _ _ hbx
   obtain⟨z0,z1,z2,z3,z4,z5,z6⟩:=hbx.cells
   have HBR:=Lib.hid hbr
   clear hkn hno hbx hbr
   go_wp2
   exact bodyPost_ret (v:=.tuple #[.agg #[.string ⟨#[]⟩,.string ⟨#[]⟩,.int .u8 0,.int .i64 0,.int .i64 0,.int .i64 0,.int .i64 0],.bool false]) (by simp[results,Tryz.results84,go_sem,z0,z1,z2,z3,z4,z5,z6,hbw]) rfl (FindPost.none HNO.out (by repeat(first|with_reducible exact HBR.out|with_reducible refine Below.setCell ?_ (by simp) _|with_reducible refine Below.drew ?_|with_reducible refine Below.alloc ?_ (by simp;omega) _)))

section
variable {w w':World} {size n:Nat} {v:Value} {xs:List Value}
end
structure Pt where
 ref:List UInt8
 lo:Int
 hi:Int
 dir:Nat
def ptc (p:Pt):List Value:=[.string (sb p.ref),.int .i64 p.lo,.int .i64 p.hi,.int .u8 (p.dir:Int)]
def ptcells (l:List Pt):List Value:=l.flatMap ptc
theorem ptcells_len (l:List Pt):(ptcells l).length=l.length*4:=by
 induction l with
 | nil=>rfl
 | cons p l ih =>
  show(ptc p++ptcells l).length=_
  rw[List.length_append,ih,List.length_cons]
  show 4+_=_
  omega
theorem ptcells_snoc (l:List Pt) (p:Pt):ptcells (l++[p])=ptcells l++ptc p:=by
 unfold ptcells;rw[List.flatMap_append];simp
theorem ptcells_at (l:List Pt):∀(k:Nat) (h:k<l.length),(ptcells l)[k*4]? = some (.string (sb l[k].ref))∧(ptcells l)[k*4+1]? = some (.int .i64 l[k].lo)∧(ptcells l)[k*4+2]? = some (.int .i64 l[k].hi)∧(ptcells l)[k*4+3]? = some (.int .u8 (l[k].dir:Int)):=by
 induction l with
 | nil=>intro k h;simp at h
 | cons p l ih =>
  intro k h
  cases k with
  | zero=>exact⟨rfl,rfl,rfl,rfl⟩
  | succ k =>
   have:=ih k (by simpa using h)
   rw[show(k+1)*4=k*4+4 by omega]
   exact this
def PtsR (w:World) (v:Value) (l:List Pt):Prop:=Rd w 4 v l.length (ptcells l)∧∀p∈l,p.ref.length≤maxLen∧p.dir<256
theorem PtsR.form {w:World} {v:Value} {l:List Pt} (h:PtsR w v l):∃A c,v=.slice A l.length c∧l.length≤c∧c≤maxLen:=h.1.form
theorem PtsR.below {w w':World} {v:Value} {l:List Pt} (h:PtsR w v l) (hb:Below w.heap.size w w'):PtsR w' v l:=⟨h.1.below hb,h.2⟩
theorem PtsR.at_ {w:World} {v:Value} {l:List Pt} (h:PtsR w v l) {k:Nat} (hk:k<l.length) :
  ∃g o c,v=.slice (some ⟨g,o,none⟩) l.length c∧g<w.heap.size∧w.cell? ⟨g,o+k*4,none⟩=some (.string (sb l[k].ref))∧w.cell? ⟨g,o+k*4+1,none⟩=some (.int .i64 l[k].lo)∧w.cell? ⟨g,o+k*4+2,none⟩=some (.int .i64 l[k].hi)∧w.cell? ⟨g,o+k*4+3,none⟩=some (.int .u8 (l[k].dir:Int)):=by
 obtain⟨⟨hl,A,c,hv,hc,hm,hr⟩,_⟩:=h
 obtain⟨g,o,rfl,hg,hx⟩:=hr (by omega)
 obtain⟨h0,h1,h2,h3⟩:=ptcells_at l k hk
 exact⟨g,o,c,hv,hg,hx _ _ h0,hx _ _ h1,hx _ _ h2,hx _ _ h3⟩

def idxFrom (r:List UInt8) (n:Nat):List Pt→Int
 | [] => -1
 | p::l=>if p.ref=r then n else idxFrom r (n+1) l
def idxOf (l:List Pt) (r:List UInt8):Int:=idxFrom r 0 l
theorem idx_step {l:List Pt} {k:Nat} (r:List UInt8) (h:k<l.length):idxFrom r k (l.drop k)=if l[k].ref=r then (k:Int) else idxFrom r (k+1) (l.drop (k+1)):=by
 rw[List.drop_eq_getElem_cons h];rfl
theorem idx_end {l:List Pt} {k:Nat} (r:List UInt8) (h:l.length≤k):idxFrom r k (l.drop k) = -1:=by
 rw[List.drop_eq_nil_of_le h];rfl
set_option maxHeartbeats 400000 in
theorem same_any (t r:ByteArray) (a b:Int) (d:Nat) (B:Nat) (w:World) (hr:w.cell? ⟨B,0,none⟩=some (.string r)) (hB:B<w.heap.size) :
  Calls Tryz.prog 223 #[.agg #[.string t,.int .i64 a,.int .i64 b,.int .u8 (d:Int)],.pointer (some ⟨B,0,none⟩)] w fun e w'=>e=.returned (.bool (t.toList == r.toList))∧Below w.heap.size w w':=by
 go_enter Tryz.func223,Tryz.ntmps223
 go_wp2
 go_ret
 exact⟨rfl,(Below.refl _ _).alloc (Nat.le_refl _) _⟩
theorem str_eq {t r:ByteArray}:(t.toList == r.toList)=decide (bl t=bl r):=by
 rw[bl_toList,bl_toList,Bool.eq_iff_iff,beq_iff_eq,decide_eq_true_iff]
set_option maxRecDepth 100000 in
set_option maxHeartbeats 1000000 in
theorem indexFunc_any (v:Value) (l:List Pt) (r:ByteArray) (B:Nat) (w:World) (h:PtsR w v l) (hr:w.cell? ⟨B,0,none⟩=some (.string r)) (hB:B<w.heap.size) :
  Calls Tryz.prog 164 #[v,.func (.func 223) #[] #[.pointer (some ⟨B,0,none⟩)]] w
   fun e w'=>e=.returned (.int .i64 (idxOf l (bl r)))∧Below w.heap.size w w':=by
 obtain⟨A,c,rfl,hc,hm⟩:=h.form
 unfold maxLen at hm
 have H:=Lib.hid h
 clear h
 obtain⟨n,hnn⟩:∃n,l.length=n:=⟨_,rfl⟩
 rw[hnn] at hc H
 rw[hnn]
 have HN:=Lib.hid hnn
 obtain⟨x,hx⟩:∃x,idxOf l (bl r)=x:=⟨_,rfl⟩
 rw[hx]
 have HX:=Lib.hid hx
 clear hnn hx
 go_enter Tryz.func164,Tryz.ntmps164
 go_wp2
 go_loopw [8] (fun i wr=>∃k:Nat,k≤n∧i=.int .i64 k∧Hid (idxFrom (bl r) k (l.drop k)=x)∧Below w.heap.size w wr) (fun i _=>n-(intOf i).toNat)
 case atStart=>exact⟨0,Nat.zero_le _,rfl,HX.out,Below.refl _ _⟩
 case round =>
  obtain⟨k,hk,rfl,hix,hbr⟩:=hrel
  by_cases hlt:k<n
  ·have hkl:k<l.length:=by rw[HN.out];exact hlt
   obtain⟨g,o,c',hA,hg,h0,h1,h2,h3⟩:=H.out.at_ hkl
   rw[HN.out] at hA
   simp only[Value.slice.injEq,true_and] at hA
   obtain⟨rfl,rfl⟩:=hA
   have k0:=(hbr.cell (p:=⟨g,o+k*4,none⟩) hg).trans h0
   have k1:=(hbr.cell (p:=⟨g,o+k*4+1,none⟩) hg).trans h1
   have k2:=(hbr.cell (p:=⟨g,o+k*4+2,none⟩) hg).trans h2
   have k3:=(hbr.cell (p:=⟨g,o+k*4+3,none⟩) hg).trans h3
   have HS:=Lib.hid (idx_step (bl r) hkl)
   obtain⟨p,hp⟩:∃p,l[k]=p:=⟨_,rfl⟩
   rw[hp] at k0 k1 k2 k3 HS
   clear h0 h1 h2 h3 hp hkl
   have hr2:=(hbr.cell (p:=⟨B,0,none⟩) hB).trans hr
   have hB2:B<wr.heap.size:=Nat.lt_of_lt_of_le hB hbr.size
   go_wp2_with fail
   refine(same_any (sb p.ref) r p.lo p.hi p.dir B _ hr2 hB2).mono ?_
   rintro e w1 ⟨rfl,hb1⟩
   have hbn:=hbr.trans (hb1.mono hbr.size)
   rw[str_eq,bl_sb]
   clear hr2 hB2 k0 k1 k2 k3
   by_cases he:p.ref=bl r
   ·have HE:=Lib.hid he
    rw[decide_eq_true he]
    clear he
    go_wp2
    go_ret
    exact⟨ret_int (by rw[←hix.out,HS.out,if_pos HE.out]),hbn⟩
   ·have HE:=Lib.hid he
    rw[decide_eq_false he]
    clear he
    go_wp2
    go_roundw
    case rel=>exact⟨k+1,hlt,by go_num,by unfold Hid;rw[←hix.out,HS.out,if_neg HE.out],hbn⟩
    case measure=>simp[intOf];omega
  ·have HE:=Lib.hid (idx_end (l:=l) (k:=k) (bl r) (by have:=HN.out;omega))
   go_wp2
   go_ret
   exact⟨ret_int (by rw[←hix.out,HE.out]),hbr⟩
set_option maxHeartbeats 1000000 in
theorem index_any (nm r:ByteArray) (v:Value) (l:List Pt) (w:World) (h:PtsR w v l) :
  Calls Tryz.prog 148 #[.agg #[.string nm,v],.string r] w fun e w'=>e=.returned (.int .i64 (idxOf l (bl r)))∧Below w.heap.size w w':=by
 obtain⟨A,c,rfl,hc,hm⟩:=h.form
 go_enter Tryz.func148,Tryz.ntmps148
 go_wp2_with fail
 refine(indexFunc_any _ l r _ _ (h.below (((Below.refl _ _).alloc (Nat.le_refl _) _).alloc (by simp) _)) (by simp[go_sem]) (by simp)).mono ?_
 rintro e w1 ⟨rfl,hb1⟩
 have hbn:=(((Below.refl w.heap.size w).alloc (Nat.le_refl _) (.cells #[.string nm,.slice A l.length c] 48)).alloc (by simp) (.cells #[.string r] 9)).trans (hb1.mono (by simp;omega))
 go_wp2
 go_ret
 exact⟨rfl,hbn⟩
set_option maxRecDepth 100000 in
set_option maxHeartbeats 1000000 in
theorem rindex_any (nm r:ByteArray) (v:Value) (l:List Pt) (w:World) (h:PtsR w v l) :
  Calls Tryz.prog 98 #[.agg #[.string nm,v],.string r] w fun e w'=>e=.returned (.int .i64 (idxOf l (bl r)))∧Below w.heap.size w w':=by
 obtain⟨A,c,rfl,hc,hm⟩:=h.form
 unfold maxLen at hm
 have H:=Lib.hid h
 clear h
 obtain⟨n,hnn⟩:∃n,l.length=n:=⟨_,rfl⟩
 rw[hnn] at hc H
 rw[hnn]
 have HN:=Lib.hid hnn
 obtain⟨x,hx⟩:∃x,idxOf l (bl r)=x:=⟨_,rfl⟩
 rw[hx]
 have HX:=Lib.hid hx
 clear hnn hx
 go_enter Tryz.func98,Tryz.ntmps98
 go_wp2
 go_loopw [10] (fun i wr=>∃k:Nat,k≤n∧i=.int .i64 k∧Hid (idxFrom (bl r) k (l.drop k)=x)∧Below w.heap.size w wr) (fun i _=>n-(intOf i).toNat)
 case atStart=>exact⟨0,Nat.zero_le _,rfl,HX.out,(Below.refl _ _).alloc (Nat.le_refl _) _⟩
 case round =>
  obtain⟨k,hk,rfl,hix,hbr⟩:=hrel
  by_cases hlt:k<n
  ·have hkl:k<l.length:=by rw[HN.out];exact hlt
   obtain⟨g,o,c',hA,hg,h0,h1,h2,h3⟩:=H.out.at_ hkl
   rw[HN.out] at hA
   simp only[Value.slice.injEq,true_and] at hA
   obtain⟨rfl,rfl⟩:=hA
   have k0:=(hbr.cell (p:=⟨g,o+k*4,none⟩) hg).trans h0
   have k1:=(hbr.cell (p:=⟨g,o+k*4+1,none⟩) hg).trans h1
   have k2:=(hbr.cell (p:=⟨g,o+k*4+2,none⟩) hg).trans h2
   have k3:=(hbr.cell (p:=⟨g,o+k*4+3,none⟩) hg).trans h3
   have HS:=Lib.hid (idx_step (bl r) hkl)
   obtain⟨p,hp⟩:∃p,l[k]=p:=⟨_,rfl⟩
   rw[hp] at k0 k1 k2 k3 HS
   clear h0 h1 h2 h3 hp hkl
   have hbn:=hbr.alloc hbr.size (.cells #[.string (sb p.ref),.int .i64 p.lo,.int .i64 p.hi,.int .u8 (p.dir:Int)] 53)
   by_cases he:p.ref=bl r
   ·have HE:=Lib.hid he
    have e1:((sb p.ref).toList == r.toList)=true:=by rw[str_eq,bl_sb,decide_eq_true he]
    clear he
    go_wp2
    go_ret
    exact⟨ret_int (by rw[←hix.out,HS.out,if_pos HE.out]),hbn⟩
   ·have HE:=Lib.hid he
    have e1:((sb p.ref).toList == r.toList)=false:=by rw[str_eq,bl_sb,decide_eq_false he]
    clear he
    go_wp2
    go_roundw
    case rel=>exact⟨k+1,hlt,by go_num,by unfold Hid;rw[←hix.out,HS.out,if_neg HE.out],hbn⟩
    case measure=>simp[intOf];omega
  ·have HE:=Lib.hid (idx_end (l:=l) (k:=k) (bl r) (by have:=HN.out;omega))
   go_wp2
   go_ret
   exact⟨ret_int (by rw[←hix.out,HE.out]),hbr⟩
end Go.Proofs.YtgmehlgfilpleaaGreatDoor
namespace Go.Proofs.YtgmehlgfilpleaaGreatDoor
set_option linter.unusedVariables false
set_option linter.unusedSimpArgs false
abbrev RS:=Nat × Bool
def tkS (st n:Nat) (s:RS):RS:=if s.2=true∨st-s.1<n then (s.1,true) else (s.1+n,false)
def tkV (bs:List UInt8) (st n:Nat) (s:RS):List UInt8:=if s.2=true∨st-s.1<n then [] else (bs.drop s.1).take n
def byV (bs:List UInt8) (st:Nat) (s:RS):UInt8:=(tkV bs st 1 s).headD 0
def loN:List UInt8→Nat
 | []=>0
 | b::t=>b.toNat+256*loN t
def n8V (bs:List UInt8) (st:Nat) (s:RS):Int:=IntKind.i64.wrap (loN (tkV bs st 8 s))
def txS (bs:List UInt8) (st:Nat) (s:RS):RS:=tkS st (byV bs st s).toNat (tkS st 1 s)
def txV (bs:List UInt8) (st:Nat) (s:RS):List UInt8:=tkV bs st (byV bs st s).toNat (tkS st 1 s)
def n8S (st:Nat) (s:RS):RS:=tkS st 8 s
def n8x (st:Nat):Nat→RS→RS
 | 0,s=>s
 | k+1,s=>n8x st k (n8S st s)
structure ImHd where
 nm:List UInt8
 cy:Int
 fr:Int
 tu:Int
 la:Int
 lo:Int
def hd0:ImHd:=⟨[],0,0,0,0,0⟩
def hdV (bs:List UInt8) (st:Nat) (s:RS):ImHd:=⟨txV bs st s,n8V bs st (txS bs st s),n8V bs st (n8x st 1 (txS bs st s)),n8V bs st (n8x st 2 (txS bs st s)),n8V bs st (n8x st 3 (txS bs st s)),n8V bs st (n8x st 4 (txS bs st s))⟩
abbrev Sec:=Nat × Nat × Nat × Nat
def magicL:List UInt8:=[70,68,66,49]
def imHdF (bs:List UInt8):ImHd:=hdV bs (9+loN (tkV bs bs.length 4 (5,false))) (9,false)
end Go.Proofs.YtgmehlgfilpleaaGreatDoor
namespace Go.Proofs.YtgmehlgfilpleaaGreatDoor
open Go.RowKit
set_option linter.unusedVariables false
set_option linter.unusedSimpArgs false
structure Pa where
 kd:Nat
 nm:List UInt8
 lg:List Lg
structure Prc where
 ap:List UInt8
 nm:List UInt8
 kd:Nat
 pa:List Pa
structure AwD where
 nm:List UInt8
 ps:List Pt
structure DbD where
 hd:ImHd
 fx:List Fx
 aw:List AwD
 pr:List Prc
def pac (p:Value × Pa):List Value:=[.int .u8 (p.2.kd:Int),.string (sb p.2.nm),p.1]
def prc (p:Value × Prc):List Value:=[.string (sb p.2.ap),.string (sb p.2.nm),.int .u8 (p.2.kd:Int),p.1]
def awc (p:Value × AwD):List Value:=[.string (sb p.2.nm),p.1]
def PtOkD (p:Pt):Prop:=p.ref.length≤maxLen∧p.dir<256
def FxOk (f:Fx):Prop:=f.id.length≤maxLen∧f.rg.length≤maxLen∧f.kd<256
def LgsR (w:World) (v:Value) (l:List Lg):Prop:=Rd w 13 v l.length (l.flatMap lgc)∧∀x∈l,LgOk x
def PaOk (w:World) (p:Value × Pa):Prop:=p.2.nm.length≤maxLen∧p.2.kd<256∧LgsR w p.1 p.2.lg
def PasR (w:World) (v:Value) (l:List Pa):Prop:=∃L:List (Value × Pa),l=L.map (·.2)∧Rd w 3 v L.length (L.flatMap pac)∧∀x∈L,PaOk w x
def PrcOk (w:World) (p:Value × Prc):Prop:=p.2.ap.length≤maxLen∧p.2.nm.length≤maxLen∧p.2.kd<256∧PasR w p.1 p.2.pa
def PrcsR (w:World) (v:Value) (l:List Prc):Prop:=∃L:List (Value × Prc),l=L.map (·.2)∧Rd w 4 v L.length (L.flatMap prc)∧∀x∈L,PrcOk w x
def AwOk (w:World) (p:Value × AwD):Prop:=p.2.nm.length≤maxLen∧PtsR w p.1 p.2.ps
def AwsD (w:World) (v:Value) (l:List AwD):Prop:=∃L:List (Value × AwD),l=L.map (·.2)∧Rd w 2 v L.length (L.flatMap awc)∧∀x∈L,AwOk w x
def FxsD (w:World) (v:Value) (l:List Fx):Prop:=Rd w 7 v l.length (l.flatMap fxc)∧∀x∈l,FxOk x
def hdD (h:ImHd):List Value:=[.string (sb h.nm),.int .i64 h.cy,.int .i64 h.fr,.int .i64 h.tu,.int .i64 h.la,.int .i64 h.lo]
def dbC (h:ImHd) (f a p:Value):List Value:=[.string (sb h.nm),.int .i64 h.cy,.int .i64 h.fr,.int .i64 h.tu,.int .i64 h.la,.int .i64 h.lo,f,a,p]
structure DbV (w:World) (f a p:Value) (D:DbD):Prop where
 nm:D.hd.nm.length≤maxLen
 fx:FxsD w f D.fx
 aw:AwsD w a D.aw
 pr:PrcsR w p D.pr
section
variable {w w':World}
theorem LgsR.below {v:Value} {l:List Lg} (h:LgsR w v l) (hb:Below w.heap.size w w'):LgsR w' v l:=⟨h.1.below hb,h.2⟩
theorem PasR.below {v:Value} {l:List Pa} (h:PasR w v l) (hb:Below w.heap.size w w'):PasR w' v l:=by
 obtain⟨L,h1,h2,h3⟩:=h
 exact⟨L,h1,h2.below hb,fun x hx=>⟨(h3 x hx).1,(h3 x hx).2.1,(h3 x hx).2.2.below hb⟩⟩
theorem PrcsR.below {v:Value} {l:List Prc} (h:PrcsR w v l) (hb:Below w.heap.size w w'):PrcsR w' v l:=by
 obtain⟨L,h1,h2,h3⟩:=h
 exact⟨L,h1,h2.below hb,fun x hx=>⟨(h3 x hx).1,(h3 x hx).2.1,(h3 x hx).2.2.1,(h3 x hx).2.2.2.below hb⟩⟩
theorem AwsD.below {v:Value} {l:List AwD} (h:AwsD w v l) (hb:Below w.heap.size w w'):AwsD w' v l:=by
 obtain⟨L,h1,h2,h3⟩:=h
 exact⟨L,h1,h2.below hb,fun x hx=>⟨(h3 x hx).1,(h3 x hx).2.below hb⟩⟩
theorem FxsD.below {v:Value} {l:List Fx} (h:FxsD w v l) (hb:Below w.heap.size w w'):FxsD w' v l:=⟨h.1.below hb,h.2⟩
theorem DbV.below {f a p:Value} {D:DbD} (h:DbV w f a p D) (hb:Below w.heap.size w w'):DbV w' f a p D:=⟨h.nm,h.fx.below hb,h.aw.below hb,h.pr.below hb⟩
end
def u8c (b:UInt8):Value:=.int .u8 (b.toNat:Int)
def BsA (w:World) (g o:Nat) (bs:List UInt8):Prop:=g<w.heap.size∧∀j b,bs[j]? = some b→w.cell? ⟨g,o+j,none⟩=some (u8c b)
theorem BsA.frm {S:Nat→Prop} {w w':World} {g o:Nat} {bs:List UInt8} (h:BsA w g o bs) (hf:Frm S w w') (hs:¬S g):BsA w' g o bs :=
 ⟨Nat.lt_of_lt_of_le h.1 hf.size,fun j b hb=>(World.cell?_of_block (w:=w) (a:=⟨g,o+j,none⟩) (hf.block g h.1 hs)).trans (h.2 j b hb)⟩
theorem BsA.below {w w':World} {g o:Nat} {bs:List UInt8} (h:BsA w g o bs) (hb:Below w.heap.size w w'):BsA w' g o bs:=h.frm (S:=fun _=>False) (Frm.of_below hb) id
theorem BsA.cell {w:World} {g o:Nat} {bs:List UInt8} (h:BsA w g o bs) {j:Nat} (hj:j<bs.length):w.cell? ⟨g,o+j,none⟩=some (.int .u8 (bs[j].toNat:Int)):=h.2 j _ (List.getElem?_eq_getElem hj)
theorem BsA.drop {w:World} {g o:Nat} {bs:List UInt8} (h:BsA w g o bs) (i:Nat):BsA w g (o+i) (bs.drop i) :=
 ⟨h.1,fun j b hb=>by rw[List.getElem?_drop] at hb;rw[Nat.add_assoc];exact h.2 _ b hb⟩
theorem BsA.take {w:World} {g o:Nat} {bs:List UInt8} (h:BsA w g o bs) (i:Nat):BsA w g o (bs.take i) :=
 ⟨h.1,fun j b hb=>by
  rw[List.getElem?_take] at hb
  split at hb
  ·exact h.2 _ b hb
  ·cases hb⟩
theorem BsA.nil {w:World} {g o:Nat} (h:g<w.heap.size):BsA w g o []:=⟨h,fun j b hb=>by simp at hb⟩
def subV (g o c i k:Nat):Value:=.slice (some ⟨g,if c=i then o else o+i,none⟩) k (c-i)
def BsV (w:World) (v:Value) (bs:List UInt8):Prop:=∃A c,v=.slice A bs.length c∧bs.length≤c∧c≤maxLen∧(0<bs.length→∃g o,A=some ⟨g,o,none⟩∧BsA w g o bs)
theorem BsV.nil (w:World):BsV w (.slice none 0 0) []:=⟨none,0,rfl,Nat.le_refl _,by unfold maxLen;omega,fun h=>absurd h (by simp)⟩
theorem BsV.sub {w:World} {g o c i k:Nat} {bs:List UInt8} (h:BsA w g o bs) (hc:bs.length≤c) (hm:c≤maxLen) (hk:i+k≤bs.length):BsV w (subV g o c i k) ((bs.drop i).take k):=by
 have hl:((bs.drop i).take k).length=k:=by rw[List.length_take,List.length_drop];omega
 unfold subV
 refine⟨some ⟨g,if c=i then o else o+i,none⟩,c-i,by rw[hl],by rw[hl];omega,by omega,fun h0 => ?_⟩
 rw[hl] at h0
 rw[if_neg (by omega)]
 exact⟨g,o+i,rfl,(h.drop i).take k⟩
theorem BsV.frm {S:Nat→Prop} {w w':World} {v:Value} {bs:List UInt8} (h:BsV w v bs) (hf:Frm S w w') (hs:∀g o n c,v=.slice (some ⟨g,o,none⟩) n c→¬S g):BsV w' v bs:=by
 obtain⟨A,c,rfl,hc,hm,hx⟩:=h
 refine⟨A,c,rfl,hc,hm,fun h0 => ?_⟩
 obtain⟨g,o,rfl,hb⟩:=hx h0
 exact⟨g,o,rfl,hb.frm hf (hs g o _ _ rfl)⟩
theorem BsV.below {w w':World} {v:Value} {bs:List UInt8} (h:BsV w v bs) (hb:Below w.heap.size w w'):BsV w' v bs:=h.frm (S:=fun _=>False) (Frm.of_below hb) (fun _ _ _ _ _=>id)
def rdPc (gb ob n c st:Nat) (s:RS):Array Value := #[.slice (some ⟨gb,ob,none⟩) n c,.int .i64 (s.1:Int),.int .i64 (st:Int),.bool s.2]
structure RdP (g gb ob c st:Nat) (bs:List UInt8) (s:RS) (w:World):Prop where
 bx:Bx g (rdPc gb ob bs.length c st s) 291 w
 by_:BsA w gb ob bs
 ne:gb≠g
 at_:s.1≤st
 st_:st≤bs.length
 cap:bs.length≤c
 mx:c≤maxLen
theorem RdP.keep {S:Nat→Prop} {g gb ob c st:Nat} {bs:List UInt8} {s:RS} {w w':World} (h:RdP g gb ob c st bs s w) (hf:Frm S w w') (h1:¬S g) (h2:¬S gb):RdP g gb ob c st bs s w' :=
 ⟨(hf.block g h.bx.lt h1).trans h.bx,h.by_.frm hf h2,h.ne,h.at_,h.st_,h.cap,h.mx⟩
theorem RdP.below {g gb ob c st:Nat} {bs:List UInt8} {s:RS} {w w':World} (h:RdP g gb ob c st bs s w) (hb:Below w.heap.size w w'):RdP g gb ob c st bs s w':=h.keep (S:=fun _=>False) (Frm.of_below hb) id id
theorem RdP.to {g gb ob c st:Nat} {bs:List UInt8} {s s':RS} {w w':World} (h:RdP g gb ob c st bs s w) (hf:Frm (· = g) w w') (hb:Bx g (rdPc gb ob bs.length c st s') 291 w') (ha:s'.1≤st):RdP g gb ob c st bs s' w' :=
 ⟨hb,h.by_.frm hf h.ne,h.ne,ha,h.st_,h.cap,h.mx⟩
theorem RdP.lt {g gb ob c st:Nat} {bs:List UInt8} {s:RS} {w:World} (h:RdP g gb ob c st bs s w):g<w.heap.size:=h.bx.lt
structure RdPTo (g gb ob c st:Nat) (bs:List UInt8) (s':RS) (w w':World):Prop where
 r:RdP g gb ob c st bs s' w'
 f:Frm (· = g) w w'
theorem RdPTo.then_ {g gb ob c st:Nat} {bs:List UInt8} {s s':RS} {w w1 w2:World} (h:RdPTo g gb ob c st bs s w w1) (k:RdPTo g gb ob c st bs s' w1 w2):RdPTo g gb ob c st bs s' w w2:=⟨k.r,h.f.trans k.f⟩
theorem frm_set (w:World) (g j:Nat) (u:Value):Frm (· = g) w (w.setCell ⟨g,j,none⟩ u) :=
 ⟨rfl,rfl,rfl,by simp,fun k hk hn=>heap_setCell_other w ⟨g,j,none⟩ k u (fun e=>hn (by simpa using e))⟩
theorem any_step {α : Type} {l:List α} {k:Nat} (p : α → Bool) (hk:k<l.length):(l.drop k).any p=(p l[k] || (l.drop (k+1)).any p):=by
 rw[List.drop_eq_getElem_cons hk];rfl
theorem any_end {α : Type} {l:List α} {k:Nat} (p : α → Bool) (hk:l.length≤k):(l.drop k).any p=false:=by
 rw[List.drop_eq_nil_of_le hk];rfl
theorem FxsR.take {w:World} {A:Option Addr} {n c:Nat} {l:List Fx} (h:FxsR w (.slice A n c) l) {k:Nat} (hk:k≤l.length):FxsR w (.slice A k c) (l.take k):=by
 obtain⟨h1,A',c',hv,hc,hm,hx⟩:=h
 simp only[Value.slice.injEq] at hv
 obtain⟨rfl,rfl,rfl⟩:=hv
 have hl:(l.take k).length=k:=by rw[List.length_take];omega
 refine⟨by rw[fxcells_len,hl],A,c,by rw[hl],by rw[hl];omega,hm,fun h0 => ?_⟩
 rw[hl] at h0
 obtain⟨g,o,rfl,hg,hj⟩:=hx (by omega)
 refine⟨g,o,rfl,hg,fun j u hu=>hj j u ?_⟩
 have e:fxcells l=fxcells (l.take k)++fxcells (l.drop k):=by
  unfold fxcells;rw[←List.flatMap_append,List.take_append_drop]
 rw[e,List.getElem?_append_left (List.getElem?_eq_some_iff.1 hu).1]
 exact hu
def aptP (t:List UInt8):Fx→Bool:=fun f=>f.kd == 5&&decide (f.id=t)
def rwP (ap nm:List UInt8):Fx→Bool:=fun f=>f.kd == 6&&(decide (f.id=nm)&&decide (f.rg=ap))
set_option maxRecDepth 100000 in
set_option maxHeartbeats 4000000 in
theorem rairport_any (v:Value) (l:List Fx) (t:ByteArray) (w:World) (h:FxsR w v l) (hN:l.length≤1000000000000) :
  Calls Tryz.prog 135 #[v,.string t] w fun e w'=>e=.returned (.bool (l.any (aptP (bl t))))∧Below w.heap.size w w':=by
 obtain⟨A,c,rfl,hcc,hm⟩:=h.form
 have H:=Lib.hid h
 obtain⟨n,hn⟩:∃n,l.length=n:=⟨_,rfl⟩
 have HN:=Lib.hid hn
 obtain⟨R,hR⟩:∃R,l.any (aptP (bl t))=R:=⟨_,rfl⟩
 have HR0:Hid ((l.drop 0).any (aptP (bl t))=R):=hR
 rw[hR]
 rw[hn] at hcc H hN ⊢
 clear h hn hR
 go_enter Tryz.func135,Tryz.ntmps135
 go_wp2_with fail
 go_loopw [9] (fun i wr=>∃k:Nat,k≤n∧i=.int .i64 k∧Hid ((l.drop k).any (aptP (bl t))=R)∧Hid (Below w.heap.size w wr)) (fun i _=>n-(intOf i).toNat)
 case atStart=>exact⟨0,Nat.zero_le _,rfl,HR0,Below.refl _ _⟩
 case round =>
  obtain⟨k,hk,rfl,hno,hbr⟩:=hrel
  by_cases hlt:k<n
  ·have hkl:k<l.length:=by rw[HN.out];exact hlt
   obtain⟨g,o,c',hA,hg,hat⟩:=H.out.at_ hkl
   rw[HN.out] at hA
   simp only[Value.slice.injEq,true_and] at hA
   obtain⟨rfl,rfl⟩:=hA
   have HM:=Lib.hid (any_step (aptP (bl t)) hkl)
   obtain⟨p,hp⟩:∃p,l[k]=p:=⟨_,rfl⟩
   rw[hp] at hat HM
   obtain⟨c0,c1,c2,c3,c4,c5,c6⟩:=hat.below hg hbr.out hg
   have hgw:g<wr.heap.size:=Nat.lt_of_lt_of_le hg hbr.out.size
   have hk1:(k:Int)<(n:Int):=by omega
   obtain⟨q,hq⟩:∃q,wr.heap.size=q:=⟨_,rfl⟩
   obtain⟨wA,hwA⟩:∃W,wr.alloc (.cells #[.string (sb p.id),.string (sb p.rg),.int .u8 (p.kd:Int),.int .i64 p.lat,.int .i64 p.lon,.int .i64 p.el,.int .i64 p.ra] 38)=W:=⟨_,rfl⟩
   have X1:Hid (FxBox wA q p):=by rw[←hwA,←hq];exact fxBox_new wr p
   have XB:Hid (Below w.heap.size w wA):=by rw[←hwA];exact hbr.out.alloc hbr.out.size _
   have HW:=Lib.hid hwA
   have HQ:=Lib.hid hq
   have HP:Hid (aptP (bl t) p=(p.kd == 5&&decide (p.id=bl t))):=rfl
   have k5:((p.kd:Int) == 5)=(p.kd == 5):=by rw[Bool.eq_iff_iff,beq_iff_eq,beq_iff_eq];omega
   have se:((sb p.id).toList == t.toList)=decide (p.id=bl t):=str_eq'
   obtain⟨K,hK⟩:∃b,(p.kd == 5)=b:=⟨_,rfl⟩
   obtain⟨E,hE⟩:∃b,decide (p.id=bl t)=b:=⟨_,rfl⟩
   rw[hK] at k5 HP
   rw[hE] at se HP
   rw[HP.out] at HM
   clear hat hp hwA hq hK hE HP
   go_upto_region 4 with fail
   rw[HW.out,HQ.out]
   clear HW c0 c1 c2 c3 c4 c5 c6 hgw
   obtain⟨y0,y1,y2,y3,y4,y5,y6⟩:=X1.out.cells
   have hsz:=lt_heap X1.out
   cases K with
   | true =>
    cases E with
    | true =>
     have HV:Hid (R=true):=by unfold Hid;rw[←hno.out,HM.out];rfl
     go_wp2
     go_ret
     exact⟨ret_bool HV.out.symm,XB.out⟩
    | false =>
     have HV:Hid ((l.drop (k+1)).any (aptP (bl t))=R):=by unfold Hid;rw[←hno.out,HM.out];rfl
     go_wp2
     go_roundw
     case rel=>exact⟨k+1,hlt,by go_num,HV,XB⟩
     case measure=>simp[intOf];omega
   | false =>
    have HV:Hid ((l.drop (k+1)).any (aptP (bl t))=R):=by unfold Hid;rw[←hno.out,HM.out];rfl
    go_wp2
    go_roundw
    case rel=>exact⟨k+1,hlt,by go_num,HV,XB⟩
    case measure=>simp[intOf];omega
  ·have HV:Hid (R=false):=by unfold Hid;rw[←hno.out];exact any_end _ (by rw[HN.out];omega)
   have hki:¬(k:Int)<(n:Int):=by omega
   go_wp2
   go_ret
   exact⟨ret_bool HV.out.symm,hbr.out⟩
set_option maxRecDepth 100000 in
set_option maxHeartbeats 4000000 in
theorem rrunwayF_any (v:Value) (l:List Fx) (ap nm:ByteArray) (w:World) (h:FxsR w v l) (hN:l.length≤1000000000000) :
  Calls Tryz.prog 141 #[v,.string ap,.string nm] w fun e w'=>e=.returned (.bool (l.any (rwP (bl ap) (bl nm))))∧Below w.heap.size w w':=by
 obtain⟨A,c,rfl,hcc,hm⟩:=h.form
 have H:=Lib.hid h
 obtain⟨n,hn⟩:∃n,l.length=n:=⟨_,rfl⟩
 have HN:=Lib.hid hn
 obtain⟨R,hR⟩:∃R,l.any (rwP (bl ap) (bl nm))=R:=⟨_,rfl⟩
 have HR0:Hid ((l.drop 0).any (rwP (bl ap) (bl nm))=R):=hR
 rw[hR]
 rw[hn] at hcc H hN ⊢
 clear h hn hR
 go_enter Tryz.func141,Tryz.ntmps141
 go_wp2_with fail
 go_loopw [11] (fun i wr=>∃k:Nat,k≤n∧i=.int .i64 k∧Hid ((l.drop k).any (rwP (bl ap) (bl nm))=R)∧Hid (Below w.heap.size w wr)) (fun i _=>n-(intOf i).toNat)
 case atStart=>exact⟨0,Nat.zero_le _,rfl,HR0,Below.refl _ _⟩
 case round =>
  obtain⟨k,hk,rfl,hno,hbr⟩:=hrel
  by_cases hlt:k<n
  ·have hkl:k<l.length:=by rw[HN.out];exact hlt
   obtain⟨g,o,c',hA,hg,hat⟩:=H.out.at_ hkl
   rw[HN.out] at hA
   simp only[Value.slice.injEq,true_and] at hA
   obtain⟨rfl,rfl⟩:=hA
   have HM:=Lib.hid (any_step (rwP (bl ap) (bl nm)) hkl)
   obtain⟨p,hp⟩:∃p,l[k]=p:=⟨_,rfl⟩
   rw[hp] at hat HM
   obtain⟨c0,c1,c2,c3,c4,c5,c6⟩:=hat.below hg hbr.out hg
   have hgw:g<wr.heap.size:=Nat.lt_of_lt_of_le hg hbr.out.size
   have hk1:(k:Int)<(n:Int):=by omega
   obtain⟨q,hq⟩:∃q,wr.heap.size=q:=⟨_,rfl⟩
   obtain⟨wA,hwA⟩:∃W,wr.alloc (.cells #[.string (sb p.id),.string (sb p.rg),.int .u8 (p.kd:Int),.int .i64 p.lat,.int .i64 p.lon,.int .i64 p.el,.int .i64 p.ra] 38)=W:=⟨_,rfl⟩
   have X1:Hid (FxBox wA q p):=by rw[←hwA,←hq];exact fxBox_new wr p
   have XB:Hid (Below w.heap.size w wA):=by rw[←hwA];exact hbr.out.alloc hbr.out.size _
   have HW:=Lib.hid hwA
   have HQ:=Lib.hid hq
   have HP:Hid (rwP (bl ap) (bl nm) p=(p.kd == 6&&(decide (p.id=bl nm)&&decide (p.rg=bl ap)))):=rfl
   have k5:((p.kd:Int) == 6)=(p.kd == 6):=by rw[Bool.eq_iff_iff,beq_iff_eq,beq_iff_eq];omega
   have se:((sb p.id).toList == nm.toList)=decide (p.id=bl nm):=str_eq'
   have sr:((sb p.rg).toList == ap.toList)=decide (p.rg=bl ap):=str_eq'
   obtain⟨K,hK⟩:∃b,(p.kd == 6)=b:=⟨_,rfl⟩
   obtain⟨E,hE⟩:∃b,decide (p.id=bl nm)=b:=⟨_,rfl⟩
   obtain⟨F,hF⟩:∃b,decide (p.rg=bl ap)=b:=⟨_,rfl⟩
   rw[hK] at k5 HP
   rw[hE] at se HP
   rw[hF] at sr HP
   rw[HP.out] at HM
   clear hat hp hwA hq hK hE hF HP
   go_upto_region 4 with fail
   rw[HW.out,HQ.out]
   clear HW c0 c1 c2 c3 c4 c5 c6 hgw
   obtain⟨y0,y1,y2,y3,y4,y5,y6⟩:=X1.out.cells
   have hsz:=lt_heap X1.out
   have HVF:Hid ((K&&(E&&F))=false→(l.drop (k+1)).any (rwP (bl ap) (bl nm))=R):=fun h=>by rw[←hno.out,HM.out,h];rfl
   have HVT:Hid ((K&&(E&&F))=true→R=true):=fun h=>by rw[←hno.out,HM.out,h];rfl
   clear HM
   cases K with
   | true =>
    cases E with
    | true =>
     cases F with
     | true =>
      have HV:Hid (R=true):=HVT.out rfl
      go_wp2
      go_ret
      exact⟨ret_bool HV.out.symm,XB.out⟩
     | false =>
      have HV:=Lib.hid (HVF.out rfl)
      go_wp2
      go_roundw
      case rel=>exact⟨k+1,hlt,by go_num,HV,XB⟩
      case measure=>simp[intOf];omega
    | false =>
     have HV:=Lib.hid (HVF.out rfl)
     go_wp2
     go_roundw
     case rel=>exact⟨k+1,hlt,by go_num,HV,XB⟩
     case measure=>simp[intOf];omega
   | false =>
    have HV:=Lib.hid (HVF.out rfl)
    go_wp2
    go_roundw
    case rel=>exact⟨k+1,hlt,by go_num,HV,XB⟩
    case measure=>simp[intOf];omega
  ·have HV:Hid (R=false):=by unfold Hid;rw[←hno.out];exact any_end _ (by rw[HN.out];omega)
   have hki:¬(k:Int)<(n:Int):=by omega
   go_wp2
   go_ret
   exact⟨ret_bool HV.out.symm,hbr.out⟩
theorem rkFind_rfs (l:List Fx) (t:List UInt8):(findL l t).isSome=l.any fun f=>decide (fxRef f=t):=by
 unfold findL
 rw[Bool.eq_iff_iff,List.find?_isSome,List.any_eq_true]
set_option maxRecDepth 100000 in
set_option maxHeartbeats 2000000 in
theorem rknown_any (v:Value) (l:List Fx) (t:ByteArray) (w:World) (h:FxsR w v l) (hz:SzL l) (hN:l.length≤1000000000000) :
  Calls Tryz.prog 55 #[v,.string t] w fun e w'=>e=.returned (.bool (l.any fun f=>decide (fxRef f=bl t)))∧Below w.heap.size w w':=by
 have HF:=rfind_any v l t w h hz hN
 rw[←rkFind_rfs]
 obtain⟨A,c,rfl,hcc,hm⟩:=h.form
 obtain⟨o,ho⟩:∃o,findL l (bl t)=o:=⟨_,rfl⟩
 rw[ho] at HF
 rw[ho]
 unfold FindPost at HF
 clear ho h hz
 go_enter Tryz.func55,Tryz.ntmps55
 go_wp2_with fail
 refine HF.mono ?_
 cases o with
 | none =>
  rintro e w1 ⟨rfl,hb⟩
  have HB:=Lib.hid hb
  clear hb HF
  go_wp2
  go_ret
  exact⟨rfl,HB.out.alloc HB.out.size _⟩
 | some p =>
  rintro e w1 ⟨rfl,hb⟩
  have HB:=Lib.hid hb
  clear hb HF
  go_wp2
  go_ret
  exact⟨rfl,HB.out.alloc HB.out.size _⟩
end Go.Proofs.YtgmehlgfilpleaaGreatDoor
