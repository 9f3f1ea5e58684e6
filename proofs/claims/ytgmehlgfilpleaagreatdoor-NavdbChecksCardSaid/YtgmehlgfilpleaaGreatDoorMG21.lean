/-
  Several texts as one.
-/
import Derived.Test.YtgmehlgfilpleaaGreatDoorMG20
import Derived.Test.YtgmehlgfilpleaaGreatDoorMG04
import Derived.Test.YtgmehlgfilpleaaGreatDoorMG14
import Derived.Deep.DeepAppendWide
import Derived.Test.YtgmehlgfilpleaaGreatDoorNvJ
import Derived.Deep.RegionLaw
namespace Go.Proofs.YtgmehlgfilpleaaGreatDoor
open Go.RowKit
set_option linter.unusedVariables false
set_option linter.unusedSimpArgs false

def AwB (w:World) (b:Nat) (nm:List UInt8) (pv:Value):Prop:=w.heap[b]? = some (.cells #[.string (sb nm),pv] 48 (0,0))
theorem AwB.cells {w:World} {b:Nat} {nm:List UInt8} {pv:Value} (h:AwB w b nm pv):w.cell? ⟨b,0,none⟩=some (.string (sb nm))∧w.cell? ⟨b,1,none⟩=some pv∧b<w.heap.size :=
 ⟨blkCell h 0 rfl,blkCell h 1 rfl,heap_lt2 h⟩
theorem AwB.frees {w:World} {b:Nat} {nm:List UInt8} {pv:Value} (h:AwB w b nm pv):w.frozen? ⟨b,0,none⟩=false∧w.frozen? ⟨b,1,none⟩=false:=⟨blkFree h 0,blkFree h 1⟩
structure HdR (P:World→Nat→Sc→Prop) (w0:World) (g:Nat) (s:Sc) (w:World):Prop where
 sc:P w g s
 r1:AwB w w0.heap.size [] (.slice none 0 0)
 r2:DgT w (w0.heap.size+1) 0 0 0
 lo:w0.heap.size+2≤g
 be:Below w0.heap.size w0 w
theorem HdR.call {P:World→Nat→Sc→Prop} {w0 w w':World} {g:Nat} {s s':Sc} (h:HdR P w0 g s w) (hs:P w' g s') (ho:Off g w w'):HdR P w0 g s' w':=by
 have l2:=heap_lt2 h.r1
 have l3:=heap_lt2 h.r2
 have lo:=h.lo
 exact⟨hs,(ho.block _ l2 (by intro e;injection e with e;omega)).trans h.r1,(ho.block _ l3 (by intro e;injection e with e;omega)).trans h.r2,lo,ho.below h.be (by omega) (by omega)⟩
theorem HdR.pthen {w0 w w':World} {g:Nat} {s:Sc} (h:HdR ScP w0 g s w) (hb:Below w.heap.size w w'):HdR ScP w0 g s w':=h.call (h.sc.below hb) (Off.of_below hb)
theorem HdR.palloc {w0 w:World} {g:Nat} {s:Sc} (h:HdR ScP w0 g s w) (o:Obj):HdR ScP w0 g s (w.alloc o):=h.pthen ((Below.refl _ _).alloc (Nat.le_refl _) o)
structure TkW (w0:World) (ba:Nat) (nm:List UInt8) (done:List Pt) (pv:Value) (w:World):Prop where
 r1:AwB w w0.heap.size [] (.slice none 0 0)
 r2:DgT w (w0.heap.size+1) 0 0 0
 bx:AwB w ba nm pv
 own:w.ownsRow (ba+1) 53 4 pv done.length (ptcells done)
 ok:∀p∈done,p.ref.length≤maxLen∧p.dir<256
 lo:w0.heap.size+2≤ba
 be:Below w0.heap.size w0 w
theorem TkW.then_ {w0 w w':World} {ba:Nat} {nm:List UInt8} {done:List Pt} {pv:Value} (h:TkW w0 ba nm done pv w) (hb:Below w.heap.size w w'):TkW w0 ba nm done pv w' :=
 ⟨(hb.block _ (heap_lt2 h.r1)).trans h.r1,(hb.block _ (heap_lt2 h.r2)).trans h.r2,(hb.block _ (heap_lt2 h.bx)).trans h.bx,own_below h.own hb,h.ok,h.lo,Below.then_ h.be hb⟩
theorem TkW.alloc {w0 w:World} {ba:Nat} {nm:List UInt8} {done:List Pt} {pv:Value} (h:TkW w0 ba nm done pv w) (o:Obj):TkW w0 ba nm done pv (w.alloc o):=h.then_ ((Below.refl _ _).alloc (Nat.le_refl _) o)
theorem TkW.pts {w0 w:World} {ba:Nat} {nm:List UInt8} {done:List Pt} {pv:Value} (h:TkW w0 ba nm done pv w):PtsR w pv done:=⟨Rd.of_own h.own,h.ok⟩
theorem TkW.snoc {w0 w w':World} {ba:Nat} {nm:List UInt8} {done:List Pt} {pv v':Value} {p:Pt} (h:TkW w0 ba nm done pv w)
  (hown:w'.ownsRow (ba+1) 53 4 v' (done.length+1) (ptcells done++[.string (sb p.ref),.int .i64 p.lo,.int .i64 p.hi,.int .u8 (p.dir:Int)])) (hg:w.grownBy w' pv.ownBlock)
  (hp:p.ref.length≤maxLen∧p.dir<256):TkW w0 ba nm (done++[p]) v' (w'.setCell ⟨ba,1,none⟩ v'):=by
 have hlt:=h.own.lt
 have l1:=heap_lt2 h.r1
 have l2:=heap_lt2 h.r2
 have l3:=heap_lt2 h.bx
 have lo:=h.lo
 have hkeep:∀k,k<w.heap.size→k<ba+1→w'.heap[k]? = w.heap[k]? := fun k hk hk2=>hg.block k hk (by intro e;have:=(hlt k e.symm).1;omega)
 have hoth:∀k,k≠ba→(w'.setCell ⟨ba,1,none⟩ v').heap[k]? = w'.heap[k]? := fun k hk=>heap_setCell_other w' ⟨ba,1,none⟩ k v' (fun e=>hk (by simpa using e))
 refine⟨(hoth _ (by omega)).trans ((hkeep _ l1 (by omega)).trans h.r1),(hoth _ (by omega)).trans ((hkeep _ l2 (by omega)).trans h.r2),?_,?_,?_,lo,?_⟩
 ·exact heap_setCell_same w' ba 1 _ _ _ ((hkeep _ l3 (by omega)).trans h.bx)
 ·have h2:w'.ownsRow (ba+1) 53 4 v' (done++[p]).length (ptcells (done++[p])):=by rw[ptcells_snoc,List.length_append];exact hown
  obtain⟨hl,h3|⟨g,cap,cur,hv,hgb,hh,r⟩⟩:=h2
  ·exact⟨hl,.inl h3⟩
  ·exact⟨hl,.inr ⟨g,cap,cur,hv,hgb,(hoth g (by omega)).trans hh,r⟩⟩
 ·intro q hq
  rw[List.mem_append,List.mem_singleton] at hq
  rcases hq with hq|rfl
  ·exact h.ok q hq
  ·exact hp
 ·exact((h.be.grown hg (by omega) (fun k hk=>by have:=(hlt k hk).1;omega)).setCell (by simp;omega) _)
def PtsT (w:World) (v:Value) (l:List Pt):Prop:=RdT w 53 4 v l.length (ptcells l)∧∀p∈l,p.ref.length≤maxLen∧p.dir<256
theorem PtsT.pts {w:World} {v:Value} {l:List Pt} (h:PtsT w v l):PtsR w v l:=⟨h.1.1,h.2⟩
theorem ptsT_nil (w:World):PtsT w (.slice none 0 0) []:=⟨RdT.nil w _ 4,fun p h=>by cases h⟩
def TakPost (L:List Ln) (w:World) (e:Ending) (w':World):Prop :=
 ∃pv,e=.returned (.tuple #[.agg #[.string (sb (takeO L).nm),pv],.agg #[.int .i64 (takeO L).dl,.int .i64 (takeO L).dc,.int .i64 (takeO L).de],.bool (takeO L).bad])∧PtsT w' pv (takeO L).pts∧Below w.heap.size w w'
theorem takPost_mk {L:List Ln} {O:TkO} (h:takeO L=O) {w w':World} {nm:ByteArray} {pv:Value} {a b c:Int} {f:Bool} (h1:sb O.nm=nm) (h2:PtsT w' pv O.pts) (h3:O.dl=a) (h4:O.dc=b) (h5:O.de=c) (h6:O.bad=f) (hb:Below w.heap.size w w') :
  TakPost L w (.returned (.tuple #[.agg #[.string nm,pv],.agg #[.int .i64 a,.int .i64 b,.int .i64 c],.bool f])) w':=by
 subst h h1 h3 h4 h5 h6;exact⟨pv,rfl,h2,hb⟩
theorem hd_fields {x:Ln} (h:(hd2 x).endB=false):0<x.2.length:=by
 rcases Nat.eq_zero_or_pos x.2.length with h0|h0
 ·exfalso
  have h1:(hd1 x).bad=true:=by
   unfold hd1
   have hg:(scan0 x.1 x.2).got=false:=by unfold Sc.got;rw[show(scan0 x.1 x.2).fs.length=0 from h0];simp
   rw[Sc.tk_no hg,Sc.take_end rfl (by show ¬0<x.2.length;omega)];rfl
  have h2:hd2 x=hd1 x:=by
   unfold hd2
   rw[Sc.tk_no (by unfold Sc.got;rw[h1];rfl),Sc.take_bad h1]
  rw[h2] at h
  unfold Sc.endB at h
  rw[h1] at h;cases h
 ·exact h0
theorem own_set {base:Nat} {w:World} {e:TypeId} {size n:Nat} {v:Value} {xs:List Value} (h:w.ownsRow base e size v n xs) {b j:Nat} (hb:b<base) (u:Value):(w.setCell ⟨b,j,none⟩ u).ownsRow base e size v n xs:=by
 obtain⟨hl,h2|⟨g,cap,cur,hv,hg,hh,r⟩⟩:=h
 ·exact⟨hl,.inl h2⟩
 ·exact⟨hl,.inr ⟨g,cap,cur,hv,hg,(heap_setCell_other w ⟨b,j,none⟩ g u (fun e=>by simp only at e;omega)).trans hh,r⟩⟩
theorem TkW.fin {w0 w:World} {ba:Nat} {nm:List UInt8} {done:List Pt} {pv:Value} (h:TkW w0 ba nm done pv w) (a b c d e:Value) :
  PtsT (((((w.setCell ⟨w0.heap.size,0,none⟩ a).setCell ⟨w0.heap.size,1,none⟩ b).setCell ⟨w0.heap.size+1,0,none⟩ c).setCell ⟨w0.heap.size+1,1,none⟩ d).setCell ⟨w0.heap.size+1,2,none⟩ e) pv done:=by
 have lo:=h.lo
 exact⟨RdT.of_own (own_set (own_set (own_set (own_set (own_set h.own (by omega) a) (by omega) b) (by omega) c) (by omega) d) (by omega) e),h.ok⟩
theorem takeO_pos {L:List Ln} (h:0<L.length):takeO L=if (hd2 (L[0]'h)).endB then tkBad (hd2 (L[0]'h)) else ptsGo (hdNm (L[0]'h)) (L[0]'h).1 (fld (L[0]'h).2 0).2 [] (L.drop 1):=by
 cases L with
 | nil=>exact absurd h (by simp)
 | cons x r=>rfl
set_option maxRecDepth 100000 in
set_option maxHeartbeats 8000000 in
theorem take15_any (v:Value) (L:List Ln) (w:World) (E:Env w) (h:LnsR w v L) (hN:L.length≤4398046511104) :
  Calls Tryz.prog 266 #[v] w (TakPost L w):=by
 obtain⟨A,c,rfl,hc,hm⟩:=h.form
 unfold maxLen at hm
 have H:=Lib.hid h
 clear h
 obtain⟨n,hnn⟩:∃n,L.length=n:=⟨_,rfl⟩
 rw[hnn] at hc hN ⊢
 have HN:=Lib.hid hnn
 have Z1:Hid (AwB ((w.alloc (.cells #[.string (sb []),.slice none 0 0] 48)).alloc (.cells #[.int .i64 0,.int .i64 0,.int .i64 0] 89)) w.heap.size [] (.slice none 0 0)) :=
  (((Below.refl _ _).alloc (Nat.le_refl _) _).block w.heap.size (by simp)).trans (heap_alloc_new w _)
 have Z2:Hid (DgT ((w.alloc (.cells #[.string (sb []),.slice none 0 0] 48)).alloc (.cells #[.int .i64 0,.int .i64 0,.int .i64 0] 89)) (w.heap.size+1) 0 0 0):=by
  have:=heap_alloc_new (w.alloc (.cells #[.string (sb []),.slice none 0 0] 48)) (.cells #[.int .i64 0,.int .i64 0,.int .i64 0] 89)
  rw[World.size_alloc] at this
  exact this
 have ZB:Hid (Below w.heap.size w ((w.alloc (.cells #[.string (sb []),.slice none 0 0] 48)).alloc (.cells #[.int .i64 0,.int .i64 0,.int .i64 0] 89))):=((Below.refl _ _).alloc (Nat.le_refl _) _).alloc (by simp) _
 rcases Nat.eq_zero_or_pos n with h0|hpos
 ·have HL:Hid (takeO L=⟨[],[],1,1,4,true⟩):=by
   have:L=[]:=List.eq_nil_of_length_eq_zero (hnn.trans h0)
   unfold Hid;rw[this];rfl
  subst h0
  clear hnn
  go_enter Tryz.func266,Tryz.ntmps266
  go_wp2
  exact bodyPost_ret (v:=.tuple #[.agg #[.string ⟨#[]⟩,.slice none 0 0],.agg #[.int .i64 1,.int .i64 1,.int .i64 4],.bool true]) (by simp[results,Tryz.results266,go_sem]) rfl (takPost_mk HL.out rfl (ptsT_nil _) rfl rfl rfl rfl (by repeat(first|with_reducible exact Below.refl _ _|with_reducible refine Below.setCell ?_ (by first|(simp;done)|(simp;omega)) _|with_reducible refine Below.alloc ?_ (by first|(simp;done)|(simp;omega)) _)))
 ·obtain⟨g0,o0,c0',fv0,hA,hg0,k0,k1,hfs0,hok0⟩:=H.out.at_ (k:=0) (by omega)
  rw[hnn] at hA
  simp only[Value.slice.injEq,true_and] at hA
  obtain⟨rfl,rfl⟩:=hA
  obtain⟨x0,hx0⟩:∃x,L[0]'(by omega)=x:=⟨_,rfl⟩
  rw[hx0] at k0 hfs0 hok0
  simp only[Nat.zero_mul,Nat.add_zero] at k0 k1
  have HTO:Hid (takeO L=if (hd2 x0).endB then tkBad (hd2 x0) else ptsGo (hdNm x0) x0.1 (fld x0.2 0).2 [] (L.drop 1)):=by
   have:=takeO_pos (L:=L) (by omega)
   rw[hx0] at this
   exact this
  have HOK0:=Lib.hid hok0
  have HFS0:=Lib.hid (hfs0.grow' ZB.out)
  have HFSW:=Lib.hid hfs0
  have hn0:(0:Int)<(n:Int):=by omega
  have hn0':((n:Int) == 0)=false:=by rw[beq_eq_false_iff_ne];omega
  obtain⟨n0,hnum0⟩:∃a,x0.1=a:=⟨_,rfl⟩
  rw[hnum0] at k0
  have HNUM0:=Lib.hid hnum0
  clear hnn hx0 hok0 hfs0 hnum0
  go_enter Tryz.func266,Tryz.ntmps266
  go_wp2_with fail
  refine(scan_any n0 _ x0.2 _ HFS0.out HOK0.out.1).mono ?_
  rintro e w1 ⟨g,rfl,hg,hsc,hb1⟩
  have D1:Hid (HdR ScP w g (scan0 x0.1 x0.2) w1):=by
   refine⟨by rw[HNUM0.out];exact hsc,(hb1.block _ (heap_lt2 Z1.out)).trans Z1.out,(hb1.block _ (heap_lt2 Z2.out)).trans Z2.out,?_,Below.then_ ZB.out hb1⟩
   simp at hg;omega
  have HWD:=Lib.hid (wdr1 w1 g ⟨#[65,73,82,87,65,89]⟩ D1.out.sc.lt)
  have D1w:=Lib.hid (D1.out.palloc (.cells #[.string ⟨#[65,73,82,87,65,89]⟩] 9))
  clear hg hsc hb1 D1 Z1 Z2 ZB HFS0
  go_wp2_with fail
  refine(word_any (scan0 x0.1 x0.2) g _ airW _ D1w.out.sc HWD.out).mono ?_
  rintro e w2 ⟨rfl,hp⟩
  have D2:Hid (HdR ScP w g (hd1 x0) w2):=D1w.out.call hp.1 hp.2
  have LT1:Hid ((hd1 x0).text.length≤140737488351232):=LnOk.text (by rw[hd1_fs];exact HOK0.out.2)
  clear hp D1w HWD
  go_wp2_with fail
  refine(nameS_any 8 (hd1 x0) g _ LT1.out D2.out.sc).mono ?_
  rintro e w3 ⟨rfl,hp⟩
  have D3:Hid (HdR ScP w g (hd2 x0) w3):=D2.out.call hp.1 hp.2
  have HNM0:Hid ((hd1 x0).tv [] (nameSV 8)=hdNm x0):=rfl
  rw[HNM0.out]
  have HNML:Hid ((hdNm x0).length≤maxLen):=by
   unfold Hid hdNm Sc.tv nameSV
   split
   ·split
    ·have:=LT1.out;unfold maxLen;omega
    ·simp
   ·simp
  obtain⟨nm,hnm⟩:∃a,hdNm x0=a:=⟨_,rfl⟩
  rw[hnm] at HNML HTO ⊢
  clear hp D2 hnm HNM0
  obtain⟨ba,hba⟩:∃b,w3.heap.size=b:=⟨_,rfl⟩
  have T3:Hid (TkW w ba nm [] (.slice none 0 0) (w3.alloc (.cells #[.string (sb nm),.slice none 0 0] 48))):=by
   have hb:Below w3.heap.size w3 (w3.alloc (.cells #[.string (sb nm),.slice none 0 0] 48)):=(Below.refl _ _).alloc (Nat.le_refl _) _
   exact⟨(hb.block _ (heap_lt2 D3.out.r1)).trans D3.out.r1,(hb.block _ (heap_lt2 D3.out.r2)).trans D3.out.r2,by rw[←hba];exact heap_alloc_new w3 _,World.ownsRow_nil _ _ _ _,by simp,by have:=heap_lt2 D3.out.r2;omega,Below.then_ D3.out.be hb⟩
  have D4:=Lib.hid (D3.out.palloc (.cells #[.string (sb nm),.slice none 0 0] 48))
  have HBA:=Lib.hid hba
  clear D3 hba
  go_wp2_with fail
  refine(endS_any (hd2 x0) g _ D4.out.sc).mono ?_
  rintro e w4 ⟨rfl,hb⟩
  rw[HBA.out]
  have T4:=Lib.hid (T3.out.then_ hb)
  clear hb D4 T3
  obtain⟨S,hS⟩:∃S,hd2 x0=S:=⟨_,rfl⟩
  rw[hS] at HTO ⊢
  have HS:=Lib.hid hS
  obtain⟨el,hel⟩:∃x,S.endL=x:=⟨_,rfl⟩
  obtain⟨ec,hec⟩:∃x,S.endC=x:=⟨_,rfl⟩
  obtain⟨ee,hee⟩:∃x,S.endE=x:=⟨_,rfl⟩
  have HBD:Hid (S.endB=true→takeO L=⟨[],[],el,ec,ee,true⟩):=by
   intro hb;rw[HTO.out,if_pos hb];unfold tkBad;rw[hel,hec,hee]
  rw[hel,hec,hee]
  clear hS hel hec hee
  have T5:=Lib.hid (T4.out.alloc (.cells #[.int .i64 el,.int .i64 ec,.int .i64 ee] 89))
  cases hend:S.endB
  ·have HGO:Hid (takeO L=ptsGo nm x0.1 (fld x0.2 0).2 [] (L.drop 1)):=by unfold Hid;rw[HTO.out,hend];rfl
   have HLF:Hid (0<x0.2.length):=hd_fields (by rw[HS.out];exact hend)
   clear hend HBD HTO T4 LT1
   go_wp2_with fail
   go_loopw [9] (fun iv wr=>∃(k:Nat) (done:List Pt) (pv:Value),iv=.int .i64 k∧1≤k∧k≤n∧done.length<k∧Hid (takeO L=ptsGo nm x0.1 (fld x0.2 0).2 done (L.drop k))∧Hid (TkW w ba nm done pv wr)) (fun iv _=>n-(intOf iv).toNat)
   case atStart=>exact⟨1,[],.slice none 0 0,rfl,Nat.le_refl _,hpos,by simp,HGO,T5⟩
   case round =>
    obtain⟨k,done,pv,rfl,hk1,hk,hdl,hgo,T6⟩:=hrel
    by_cases hlt:k<n
    ·have hkl:k<L.length:=by have:=HN.out;omega
     obtain⟨g1,o1,c1',fv,hA1,hg1,y0,y1,hfs,hok⟩:=(H.out.below T6.out.be).at_ hkl
     simp only[Value.slice.injEq,Option.some.injEq,Addr.mk.injEq,true_and,and_true] at hA1
     obtain⟨⟨rfl,rfl⟩,rfl⟩:=hA1
     have hst:=ptsGo_step nm x0.1 (fld x0.2 0).2 done hkl
     obtain⟨x,hxx⟩:∃x,L[k]=x:=⟨_,rfl⟩
     rw[hxx] at y0 hfs hok hst
     rw[HN.out] at hst
     obtain⟨lb,hlb⟩:∃b,decide (n≤k+1)=b:=⟨_,rfl⟩
     rw[hlb] at hst
     have elb:((k:Int) == (n:Int)-1)=lb:=by
      rw[←hlb,Bool.eq_iff_iff,beq_iff_eq,decide_eq_true_iff];omega
     have HST:=Lib.hid hst
     have HOK:=Lib.hid hok
     have HFS:=Lib.hid hfs
     have E6:=E.below T6.out.be
     have hki:(k:Int)<(n:Int):=by omega
     obtain⟨num,hnum⟩:∃a,x.1=a:=⟨_,rfl⟩
     rw[hnum] at y0
     have HNUM:=Lib.hid hnum
     have htp:=takePoint_any x lb fv _ E6 HFS.out HOK.out
     rw[HNUM.out] at htp
     have HTP:=Lib.hid htp
     have HPO:Hid ((viaP x lb).ref.length≤maxLen∧(viaP x lb).dir<256):=by
      have h1:(via1 x).text.length≤140737488351232:=LnOk.text (by rw[via1_fs];exact HOK.out.2)
      have h2:=dir_nat x
      unfold Hid viaP
      split
      ·exact⟨by unfold maxLen;show(via1 x).text.length≤_;omega,by show 0<256;decide⟩
      ·refine⟨by unfold maxLen;show(via1 x).text.length≤_;omega,?_⟩
       show(viaDir x%256).toNat<256
       omega
     clear hxx hst hok hfs hlb hnum htp
     go_wp2_with fail
     refine HTP.out.mono ?_
     rintro e w5 ⟨rfl,hb⟩
     have T7:=Lib.hid (T6.out.then_ hb)
     obtain⟨P,hP⟩:∃P,viaP x lb=P:=⟨_,rfl⟩
     obtain⟨S1,hS1⟩:∃S,viaS x lb=S:=⟨_,rfl⟩
     rw[hP] at HST HPO ⊢
     rw[hS1] at HST ⊢
     obtain⟨fl,hfl⟩:∃x,S1.endL=x:=⟨_,rfl⟩
     obtain⟨fc,hfc⟩:∃x,S1.endC=x:=⟨_,rfl⟩
     obtain⟨fe,hfe⟩:∃x,S1.endE=x:=⟨_,rfl⟩
     have HBD1:Hid (S1.endB=true→takeO L=⟨[],[],fl,fc,fe,true⟩):=by
      intro hb;rw[hgo.out,HST.out,if_pos hb];unfold tkBad;rw[hfl,hfc,hfe]
     have HGD1:Hid (S1.endB=false→takeO L=ptsGo nm x0.1 (fld x0.2 0).2 (done++[P]) (L.drop (k+1))):=by
      intro hb;rw[hgo.out,HST.out,if_neg (by rw[hb];decide)]
     rw[hfl,hfc,hfe]
     clear hP hS1 hfl hfc hfe hb T6 HTP y0 y1 HST hgo hg1
     obtain⟨r0,r1,r2⟩:=T7.out.r1.cells
     obtain⟨q0,q1⟩:=T7.out.r1.frees
     obtain⟨d0,d1,d2,d3⟩:=T7.out.r2.cells
     obtain⟨e0,e1,e2⟩:=T7.out.r2.frees
     obtain⟨b0,b1,b2⟩:=T7.out.bx.cells
     obtain⟨b3,b4⟩:=T7.out.bx.frees
     have HBE:=Lib.hid T7.out.be
     cases hend1:S1.endB
     ·have HG:=Lib.hid (HGD1.out hend1)
      obtain⟨ip,hip,hz0,hz1,hz2⟩:=info_parts infoPt
      have T8:=Lib.hid ((T7.out.alloc (.cells #[.string (sb P.ref),.int .i64 P.lo,.int .i64 P.hi,.int .u8 (P.dir:Int)] 53)).alloc (.cells #[.int .i64 fl,.int .i64 fc,.int .i64 fe] 89))
      clear hend1 HBD1 HGD1
      have HNEWS:Hid (∀j u,[.string (sb P.ref),.int .i64 P.lo,.int .i64 P.hi,.int .u8 (P.dir:Int)][j]? = some u→(((w5.alloc (.cells #[.string (sb P.ref),.int .i64 P.lo,.int .i64 P.hi,.int .u8 (P.dir:Int)] 53)).alloc (.cells #[.int .i64 fl,.int .i64 fc,.int .i64 fe] 89)).alloc (.cells #[.string (sb P.ref),.int .i64 P.lo,.int .i64 P.hi,.int .u8 (P.dir:Int)] 53)).cell? ((⟨w5.heap.size+1+1,0,none⟩:Addr).add j)=some u):=by
       have h:=heap_alloc_new ((w5.alloc (.cells #[.string (sb P.ref),.int .i64 P.lo,.int .i64 P.hi,.int .u8 (P.dir:Int)] 53)).alloc (.cells #[.int .i64 fl,.int .i64 fc,.int .i64 fe] 89)) (.cells #[.string (sb P.ref),.int .i64 P.lo,.int .i64 P.hi,.int .u8 (P.dir:Int)] 53)
       simp only[World.size_alloc] at h
       exact World.news_of_block (cs := #[.string (sb P.ref),.int .i64 P.lo,.int .i64 P.hi,.int .u8 (P.dir:Int)]) (t:=53) (fr:=(0,0)) h
      have T8b:=Lib.hid (T8.out.alloc (.cells #[.string (sb P.ref),.int .i64 P.lo,.int .i64 P.hi,.int .u8 (P.dir:Int)] 53))
      clear T7 d0 d1 d2 d3 e0 e1 e2 r0 r1 r2 q0 q1
      go_wp2_with (at_builtin;refine wpList_append_own_wide _ rfl (.tmp 61) (.tmp 63) 46 rfl (ba+1) 53 ip (.agg #[.string ⟨#[]⟩,.int .i64 0,.int .i64 0,.int .u8 0]) 4 40 Tryz.underlying46 hip hz0 hz1 hz2 rfl (by decide) pv done.length (ptcells done) rfl T8b.out.own ⟨w5.heap.size+1+1,0,none⟩ 1 1 [.string (sb P.ref),.int .i64 P.lo,.int .i64 P.hi,.int .u8 (P.dir:Int)] rfl rfl HNEWS.out (by simp[Value.oneCell']) (by unfold maxLen;omega) (by omega) (by simp;omega) ?_)
      intro v' w' hown' hgrow _
      obtain⟨Av,cv,hvf,_,_⟩:=(Rd.of_own hown').form
      subst hvf
      have T9:=Lib.hid (T8b.out.snoc hown' hgrow HPO.out)
      have hb':w'.cell? ⟨ba,1,none⟩=some pv:=World.cell?_of_block (a:=⟨ba,1,none⟩) (hgrow.block ba (by simp;omega) (by intro e;have:=(T8b.out.own.lt ba e.symm).1;omega)) |>.trans T8b.out.bx.cells.2.1
      have hf':w'.frozen? ⟨ba,1,none⟩=false:=World.frozen?_of_block (a:=⟨ba,1,none⟩) (hgrow.block ba (by simp;omega) (by intro e;have:=(T8b.out.own.lt ba e.symm).1;omega)) |>.trans T8b.out.bx.frees.2
      clear hown' hgrow T8 T8b HNEWS b0 b1 b2 b3 b4
      go_wp2
      go_roundw
      case rel=>exact⟨k+1,done++[P],_,by go_num,by omega,hlt,by rw[List.length_append,List.length_singleton];omega,HG,T9⟩
      case measure=>simp[intOf];omega
     ·have HL:=Lib.hid (HBD1.out hend1)
      clear hend1 HBD1 HGD1 T7
      go_wp2
      go_region
      go_wp2
      exact bodyPost_ret (v:=.tuple #[.agg #[.string ⟨#[]⟩,.slice none 0 0],.agg #[.int .i64 fl,.int .i64 fc,.int .i64 fe],.bool true]) (by simp[results,Tryz.results266,go_sem,r0,r1,r2,d0,d1,d2,d3]) rfl (takPost_mk HL.out rfl (ptsT_nil _) rfl rfl rfl rfl (by repeat(first|with_reducible exact HBE.out|with_reducible refine Below.setCell ?_ (by first|(simp;done)|(simp;omega)) _|with_reducible refine Below.drew ?_|with_reducible refine below_drewN' ?_ _|with_reducible refine Below.alloc ?_ (by first|(simp;done)|(have:=HBE.out.size;simp;omega)|exact HBE.out.size) _)))
    ·have hki:(n:Int)≤(k:Int):=by omega
     have HEND:Hid (takeO L=if chkA nm done=0 then ⟨nm,done,0,0,0,false⟩ else ⟨[],[],x0.1,(fld x0.2 0).2,chkA nm done,true⟩):=by
      unfold Hid;rw[hgo.out,ptsGo_end nm _ _ done (by have:=HN.out;omega)]
     obtain⟨bb,oo,cc,hfv,hbb,hc0,hc1,_⟩:=HFSW.out.at_ HLF.out
     subst hfv
     obtain⟨Ap,cp,hpv,_,_⟩:=T6.out.pts.form
     subst hpv
     obtain⟨b0,b1,b2⟩:=T6.out.bx.cells
     clear hgo hc0
     go_wp2_with fail
     refine(check_any (sb nm) _ done _ T6.out.pts HNML.out).mono ?_
     rintro e w5 ⟨rfl,hb⟩
     rw[bl_sb]
     have T7:=Lib.hid (T6.out.then_ hb)
     obtain⟨er,her⟩:∃x,chkA nm done=x:=⟨_,rfl⟩
     rw[her] at HEND ⊢
     clear hb T6 her b0 b1 b2
     obtain⟨r0,r1,r2⟩:=T7.out.r1.cells
     obtain⟨q0,q1⟩:=T7.out.r1.frees
     obtain⟨d0,d1,d2,d3⟩:=T7.out.r2.cells
     obtain⟨e0,e1,e2⟩:=T7.out.r2.frees
     obtain⟨b0,b1,b2⟩:=T7.out.bx.cells
     have HBE:=Lib.hid T7.out.be
     have hlo:=T7.out.lo
     have hba1:w.heap.size<ba:=by omega
     have hba2:w.heap.size+1<ba:=by omega
     by_cases h0:er=0
     ·have ee1:(er != 0)=false:=bne_eq_false_iff_eq.2 h0
      have HL:Hid (takeO L=⟨nm,done,0,0,0,false⟩):=by unfold Hid;rw[HEND.out,if_pos h0]
      clear h0 HEND hlo
      go_wp2
      exact bodyPost_ret (v:=.tuple #[.agg #[.string (sb nm),.slice Ap done.length cp],.agg #[.int .i64 0,.int .i64 0,.int .i64 0],.bool false]) (by simp[results,Tryz.results266,go_sem,r0,r1,r2,d0,d1,d2,d3]) rfl (takPost_mk HL.out rfl (T7.out.fin _ _ _ _ _) rfl rfl rfl rfl (by repeat(first|with_reducible exact HBE.out|with_reducible refine Below.setCell ?_ (by first|(simp;done)|(simp;omega)) _)))
     ·have ee1:(er != 0)=true:=bne_iff_ne.2 h0
      have HL:Hid (takeO L=⟨[],[],x0.1,(fld x0.2 0).2,er,true⟩):=by unfold Hid;rw[HEND.out,if_neg h0]
      have y0:=(HBE.out.cell (p:=⟨g0,o0,none⟩) hg0).trans k0
      have y1:=(HBE.out.cell (p:=⟨g0,o0+1,none⟩) hg0).trans k1
      have y2:=(HBE.out.cell (p:=⟨bb,oo+0*2+1,none⟩) hbb).trans hc1
      simp only[Nat.zero_mul,Nat.add_zero] at y2
      have hfl0:0<x0.2.length:=HLF.out
      have hfi:(0:Int)<(x0.2.length:Int):=by omega
      rw[HNUM0.out] at HL
      clear h0 HEND hlo hc1
      go_wp2
      go_region
      go_wp2
      exact bodyPost_ret (v:=.tuple #[.agg #[.string ⟨#[]⟩,.slice none 0 0],.agg #[.int .i64 n0,.int .i64 (fld x0.2 0).2,.int .i64 er],.bool true]) (by simp[results,Tryz.results266,go_sem,r0,r1,r2,d0,d1,d2,d3]) rfl (takPost_mk HL.out rfl (ptsT_nil _) rfl rfl rfl rfl (by repeat(first|with_reducible exact HBE.out|with_reducible refine Below.setCell ?_ (by first|(simp;done)|(simp;omega)) _|with_reducible refine Below.drew ?_|with_reducible refine below_drewN' ?_ _|with_reducible refine Below.alloc ?_ (by first|(simp;done)|(have:=HBE.out.size;simp;omega)|exact HBE.out.size) _)))
  ·have HL:=Lib.hid (HBD.out hend)
   obtain⟨r0,r1,r2⟩:=T4.out.r1.cells
   obtain⟨q0,q1⟩:=T4.out.r1.frees
   obtain⟨d0,d1,d2,d3⟩:=T4.out.r2.cells
   obtain⟨e0,e1,e2⟩:=T4.out.r2.frees
   have HBE:=Lib.hid T4.out.be
   clear hend
   go_wp2
   go_region
   go_wp2
   exact bodyPost_ret (v:=.tuple #[.agg #[.string ⟨#[]⟩,.slice none 0 0],.agg #[.int .i64 el,.int .i64 ec,.int .i64 ee],.bool true]) (by simp[results,Tryz.results266,go_sem,r0,r1,r2,d0,d1,d2,d3]) rfl (takPost_mk HL.out rfl (ptsT_nil _) rfl rfl rfl rfl (by repeat(first|with_reducible exact HBE.out|with_reducible refine Below.setCell ?_ (by first|(simp;done)|(simp;omega)) _|with_reducible refine Below.drew ?_|with_reducible refine below_drewN' ?_ _|with_reducible refine Below.alloc ?_ (by first|(simp;done)|(simp;omega)|exact HBE.out.size) _)))
abbrev DgI:=Int × Int × Int
def dicells (l:List DgI):List Value:=l.flatMap fun d=>[.int .i64 d.1,.int .i64 d.2.1,.int .i64 d.2.2]
theorem dicells_snoc (l:List DgI) (d:DgI):dicells (l++[d])=dicells l++[.int .i64 d.1,.int .i64 d.2.1,.int .i64 d.2.2]:=by
 unfold dicells;rw[List.flatMap_append];rfl
structure El where
 kd:Nat
 x:Ln
 fx:Fx
 nm:List UInt8
 pts:List Pt
 vias:List Ln
structure EV where
 fv:Value
 pv:Value
 vv:Value
def elc (p:El × EV):List Value:=[.int .u8 (p.1.kd:Int),.int .i64 p.1.x.1,p.2.fv,.string (sb p.1.fx.id),.string (sb p.1.fx.rg),.int .u8 (p.1.fx.kd:Int),.int .i64 p.1.fx.lat,.int .i64 p.1.fx.lon,.int .i64 p.1.fx.el,.int .i64 p.1.fx.ra,
 .string (sb p.1.nm),p.2.pv,p.2.vv,.string ⟨#[]⟩,.string ⟨#[]⟩,.int .u8 0,.slice none 0 0,.slice none 0 0,.slice none 0 0]
def elcells (L:List (El × EV)):List Value:=L.flatMap elc
theorem elcells_snoc (L:List (El × EV)) (p:El × EV):elcells (L++[p])=elcells L++elc p:=by
 unfold elcells;rw[List.flatMap_append];simp
theorem elcells_at (l:List (El × EV)):∀(k:Nat) (h:k<l.length) (j:Nat),j<19→(elcells l)[k*19+j]? = (elc l[k])[j]? := by
 induction l with
 | nil=>intro k h;simp at h
 | cons p l ih =>
  intro k h j hj
  show(elc p++elcells l)[k*19+j]? = _
  have hl:(elc p).length=19:=rfl
  cases k with
  | zero=>rw[Nat.zero_mul,Nat.zero_add,List.getElem?_append_left (by omega)];rfl
  | succ k =>
   rw[List.getElem?_append_right (by omega),hl,show(k+1)*19+j-19=k*19+j by omega]
   exact ih k (by simpa using h) j hj
structure Cp where
 bad:List DgI
 nm:List UInt8
 cy:Int
 fr:Int
 tu:Int
 la:Int
 lo:Int
 all:List El
 aw:Bool
 pr:Bool
 pt:Bool
def cpC (lv bv av:Value) (s:Cp):Array Value := #[lv,bv,.string (sb s.nm),.int .i64 s.cy,.int .i64 s.fr,.int .i64 s.tu,.int .i64 s.la,.int .i64 s.lo,av,.bool s.aw,.bool s.pr,.bool s.pt]
structure ElIn (w0 w:World) (p:El × EV):Prop where
 f:FsR w0 w0.heap.size p.2.fv p.1.x.2
 v:LnsR w0 p.2.vv p.1.vias
 ps:RdT w 53 4 p.2.pv p.1.pts.length (ptcells p.1.pts)
 f0:0<p.1.x.2.length
 nz:p.1.nm.length≤140737488351232
 pz:∀q∈p.1.pts,q.ref.length≤maxLen∧q.dir<256
 xz:p.1.fx.id.length≤1000000000000000∧p.1.fx.rg.length≤1000000000000000
structure CpR (w0:World) (B:Nat) (lv:Value) (s:Cp) (bv av:Value) (L:List (El × EV)) (w:World):Prop where
 bx:Bx w0.heap.size (cpC lv bv av s) 180 w
 bad:w.ownsRow B 89 3 bv s.bad.length (dicells s.bad)
 all:RdT w 187 19 av s.all.length (elcells L)
 eq:L.map (·.1)=s.all
 be:Below w0.heap.size w0 w
 el:∀p∈L,ElIn w0 w p
 lo:w0.heap.size<B
 hi:B≤w.heap.size
theorem ElIn.below {w0 w w':World} {p:El × EV} (h:ElIn w0 w p) (hb:Below w.heap.size w w'):ElIn w0 w' p:=⟨h.f,h.v,h.ps.below hb,h.f0,h.nz,h.pz,h.xz⟩
theorem CpR.below {w0:World} {B:Nat} {lv:Value} {s:Cp} {bv av:Value} {L:List (El × EV)} {w w':World} (h:CpR w0 B lv s bv av L w) (hb:Below w.heap.size w w'):CpR w0 B lv s bv av L w' :=
 ⟨h.bx.via hb,own_below h.bad hb,h.all.below hb,h.eq,Below.then_ h.be hb,fun p hp=>(h.el p hp).below hb,h.lo,Nat.le_trans h.hi hb.size⟩
theorem CpR.lt {w0:World} {B:Nat} {lv:Value} {s:Cp} {bv av:Value} {L:List (El × EV)} {w:World} (h:CpR w0 B lv s bv av L w):w0.heap.size<w.heap.size:=h.bx.lt
def Cp.fail (s:Cp) (x:Ln) (e:Int):Cp:=if e=0 then s else {s with bad:=s.bad++[(x.1,(fld x.2 0).2,e)]}
def SBad (w0:World) (bv:Value) (k:Nat):Prop:=k=w0.heap.size∨bv.ownBlock=some k
theorem SBad.map {w0:World} {B:Nat} {bv:Value} {w:World} {lv:Value} {s:Cp} {av:Value} {L:List (El × EV)} (h:CpR w0 B lv s bv av L w) {b:Nat} {es c} (hb:w.heap[b]? = some (.map es c)):¬SBad w0 bv b:=by
 rintro(h1|h1)
 ·rw[h1,h.bx] at hb;cases hb
 ·obtain⟨cur,e',z,hh,_⟩:=own_block h.bad b h1
  rw[hh] at hb;cases hb
theorem SBad.mapF {w0:World} {B:Nat} {bv:Value} {w:World} {lv:Value} {s:Cp} {av:Value} {L:List (El × EV)} (h:CpR w0 B lv s bv av L w) {β : Type} {e:Elm β} {b n:Nat} {m:List UInt8→Option β} (hm:MapF e w b n m):¬SBad w0 bv b:=by
 obtain⟨D,⟨es,clock,hbk,r⟩,k⟩:=hm
 exact SBad.map h hbk
theorem SBad.cells {w0:World} {B:Nat} {bv:Value} {w:World} {lv:Value} {s:Cp} {av:Value} {L:List (El × EV)} (h:CpR w0 B lv s bv av L w) {b:Nat} {cs z} {t:TypeId} (hb:w.heap[b]? = some (.cells cs t z)) (h1:t≠180) (h2:t≠89):¬SBad w0 bv b:=by
 rintro(h3|h3)
 ·rw[h3,h.bx] at hb
  injection hb with hb
  injection hb with _ ht
  exact h1 ht.symm
 ·obtain⟨cur,e',z',hh,he⟩:=own_block h.bad b h3
  rw[hh] at hb
  injection hb with hb
  injection hb with _ ht
  exact h2 (by rw[←ht,he])
theorem RdT.frm {S:Nat→Prop} {w w':World} {e:TypeId} {size n:Nat} {v:Value} {xs:List Value} (h:RdT w e size v n xs) (hf:Frm S w w') (hr:∀k cur z,w.heap[k]? = some (.cells cur e z)→¬S k):RdT w' e size v n xs:=by
 obtain⟨⟨hl,A,c,hv,hc,hm,hx⟩,h2⟩:=h
 refine⟨⟨hl,A,c,hv,hc,hm,fun hn => ?_⟩,?_⟩
 ·obtain⟨g,o,hA,hgl,hcell⟩:=hx hn
  rcases h2 with h0|⟨g',o',c',cur,z,hv',hh⟩
  ·omega
  ·have hg':g=g':=by
    rw[hv,hA] at hv'
    injection hv' with ha
    injection ha with ha
    injection ha
   subst hg'
   have hs:=hf.block g hgl (hr _ _ _ hh)
   exact⟨g,o,hA,Nat.lt_of_lt_of_le hgl hf.size,fun j u hu=>(World.cell?_of_block (w:=w) (a:=⟨g,o+j,none⟩) hs).trans (hcell j u hu)⟩
 ·rcases h2 with h0|⟨g',o',c',cur,z,hv',hh⟩
  ·exact .inl h0
  ·exact .inr ⟨g',o',c',cur,z,hv',(hf.block g' (heap_lt hh) (hr _ _ _ hh)).trans hh⟩
theorem own_frm {S:Nat→Prop} {base:Nat} {w w':World} {e:TypeId} {size n:Nat} {v:Value} {xs:List Value} (h:w.ownsRow base e size v n xs) (hf:Frm S w w') (hr:∀k cur z,w.heap[k]? = some (.cells cur e z)→¬S k):w'.ownsRow base e size v n xs:=by
 obtain⟨hl,h2|⟨g,cap,cur,hv,hg,hh,r⟩⟩:=h
 ·exact⟨hl,.inl h2⟩
 ·exact⟨hl,.inr ⟨g,cap,cur,hv,hg,(hf.block g (heap_lt hh) (hr _ _ _ hh)).trans hh,r⟩⟩
theorem ElIn.frm {S:Nat→Prop} {w0 w w':World} {p:El × EV} (h:ElIn w0 w p) (hf:Frm S w w') (hr:∀k cur z,w.heap[k]? = some (.cells cur 53 z)→¬S k):ElIn w0 w' p:=⟨h.f,h.v,h.ps.frm hf hr,h.f0,h.nz,h.pz,h.xz⟩
theorem CpR.push {w0:World} {B:Nat} {lv:Value} {s s':Cp} {bv av v':Value} {L:List (El × EV)} {w wa w3:World} {a b c:Int} (h:CpR w0 B lv s bv av L w) (hba:Below w.heap.size w wa)
  (hown:w3.ownsRow B 89 3 v' (s.bad.length+1) (dicells s.bad++[.int .i64 a,.int .i64 b,.int .i64 c])) (hg:wa.grownBy w3 bv.ownBlock) (hs:s'={s with bad:=s.bad++[(a,b,c)]}) :
  CpR w0 B lv s' v' av L (w3.setCell ⟨w0.heap.size,1,none⟩ v')∧Frm (SBad w0 bv) w (w3.setCell ⟨w0.heap.size,1,none⟩ v'):=by
 have hlt:=h.bad.lt
 have l0:=h.lt
 have lo:=h.lo
 have hsz:=hba.size
 have hA:=h.below hba
 have hoth:∀k,k≠w0.heap.size→(w3.setCell ⟨w0.heap.size,1,none⟩ v').heap[k]? = w3.heap[k]? := fun k hk=>heap_setCell_other w3 ⟨w0.heap.size,1,none⟩ k v' (fun e=>hk (by simpa using e))
 have hkeep:∀k,k<wa.heap.size→bv.ownBlock≠some k→w3.heap[k]? = wa.heap[k]? := fun k hk hk2=>hg.block k hk (by intro e;exact hk2 e.symm)
 have hn0:bv.ownBlock≠some w0.heap.size:=fun e=>by have:=(hlt _ e).1;omega
 have F:Frm (SBad w0 bv) w (w3.setCell ⟨w0.heap.size,1,none⟩ v'):=by
  refine⟨hg.os.trans hba.os,hg.tape.trans hba.tape,hg.output.trans hba.output,by simp;have:=hg.size;omega,fun k hk hn => ?_⟩
  have h1:k≠w0.heap.size:=fun e=>hn (.inl e)
  have h2:bv.ownBlock≠some k:=fun e=>hn (.inr e)
  exact(hoth k h1).trans ((hkeep k (by omega) h2).trans (hba.block k hk))
 subst hs
 refine⟨⟨?_,?_,h.all.frm F (fun k cur z hh=>SBad.cells h hh (by decide) (by decide)),h.eq,F.below (by omega) (fun k hk => ?_) |> fun hb=>Below.trans h.be hb,fun p hp=>(h.el p hp).frm F (fun k cur z hh=>SBad.cells h hh (by decide) (by decide)),lo,Nat.le_trans h.hi F.size⟩,F⟩
 ·exact((hkeep _ (by omega) hn0).trans hA.bx:w3.heap[w0.heap.size]? = _) |> fun e=>heap_setCell_same w3 w0.heap.size 1 _ _ _ e
 ·have e:({s with bad:=s.bad++[(a,b,c)]}:Cp).bad.length=s.bad.length+1:=by simp
  rw[e,show({s with bad:=s.bad++[(a,b,c)]}:Cp).bad=s.bad++[(a,b,c)] from rfl,dicells_snoc]
  exact own_set hown lo v'
 ·rcases hk with rfl|hk
  ·exact Nat.le_refl _
  ·have:=(hlt _ hk).1;omega
set_option maxRecDepth 100000 in
set_option maxHeartbeats 4000000 in
theorem fail_any (w0:World) (B:Nat) (lv:Value) (s:Cp) (bv av:Value) (L:List (El × EV)) (x:Ln) (fv:Value) (er:Int) (w:World) (h:CpR w0 B lv s bv av L w) (hf:FsR w0 w0.heap.size fv x.2) (h0:0<x.2.length) (hn:s.bad.length≤1000000000) :
  Calls Tryz.prog 189 #[.pointer (some ⟨w0.heap.size,0,none⟩),.agg #[.int .i64 x.1,fv],.int .i64 er] w
   fun e w'=>e=.returned (.tuple #[])∧∃bv',CpR w0 B lv (s.fail x er) bv' av L w'∧Frm (SBad w0 bv) w w'∧(er=0→bv'=bv):=by
 obtain⟨ip,hip,hz0,hz1,hz2⟩:=info_parts infoDiag
 obtain⟨gb,go,gc,rfl,hgb,y0,y1,_⟩:=hf.at_ (k:=0) h0
 simp only[Nat.zero_mul,Nat.add_zero,Nat.zero_add] at y0 y1
 obtain⟨m,hm⟩:∃m,x.2.length=m:=⟨_,rfl⟩
 rw[hm] at h0 ⊢
 have hmi:(0:Int)<(m:Int):=by omega
 obtain⟨col,hcol⟩:∃c,(fld x.2 0).2=c:=⟨_,rfl⟩
 have HCOL:=Lib.hid hcol
 rw[hcol] at y1
 have H:=Lib.hid h
 have hlt:=h.lt
 clear hf hm hcol y0
 by_cases he:er=0
 ·subst he
  have e0:((0:Int) != 0)=false:=rfl
  clear hip hz0 hz1 hz2
  go_enter Tryz.func189,Tryz.ntmps189
  go_wp2
  go_end0
  have hb:Below w.heap.size w (w.alloc (.cells #[.int .i64 x.1,.slice (some ⟨gb,go,none⟩) m gc] 184)):=(Below.refl _ _).alloc (Nat.le_refl _) _
  exact⟨rfl,bv,by unfold Cp.fail;rw[if_pos rfl];exact H.out.below hb,Frm.of_below hb,fun _=>rfl⟩
 ·have e0:(er != 0)=true:=bne_iff_ne.2 he
  have HS:Hid (s.fail x er={s with bad:=s.bad++[(x.1,col,er)]}):=by unfold Hid Cp.fail;rw[if_neg he,HCOL.out]
  obtain⟨xn,hxn⟩:∃n,x.1=n:=⟨_,rfl⟩
  rw[hxn] at HS ⊢
  have HE:=Lib.hid he
  clear he hxn HCOL
  obtain⟨w1,hw1⟩:∃W,w.alloc (.cells #[.int .i64 xn,.slice (some ⟨gb,go,none⟩) m gc] 184)=W:=⟨_,rfl⟩
  have B1:Hid (Below w.heap.size w w1):=by rw[←hw1];exact(Below.refl _ _).alloc (Nat.le_refl _) _
  have c0:w1.cell? ⟨w.heap.size,0,none⟩=some (.int .i64 xn):=by rw[←hw1];simp[go_sem]
  have c1:w1.cell? ⟨w.heap.size,1,none⟩=some (.slice (some ⟨gb,go,none⟩) m gc):=by rw[←hw1];simp[go_sem]
  have clt:w.heap.size<w1.heap.size:=by rw[←hw1];simp
  have H1:=Lib.hid (H.out.below B1.out)
  have k1:w1.cell? ⟨gb,go+1,none⟩=some (.int .i64 col):=(H1.out.be.cell (p:=⟨gb,go+1,none⟩) hgb).trans y1
  have klt:gb<w1.heap.size:=by omega
  have kv:w1.cell? ⟨w0.heap.size,1,none⟩=some bv:=H1.out.bx.cell 1 rfl
  have kf:w1.frozen? ⟨w0.heap.size,1,none⟩=false:=H1.out.bx.free 1
  have kl:w0.heap.size<w1.heap.size:=by omega
  have hBs:B≤w1.heap.size:=H1.out.hi
  have hBlo:w0.heap.size<B:=H1.out.lo
  have hown:=H1.out.bad
  obtain⟨Av,cv,rfl,hcv1,hcv2⟩:=(Rd.of_own hown).form
  unfold maxLen at hcv2
  have hlt0:=hown.lt
  have HW1:=Lib.hid hw1
  clear hw1 H y1
  go_enter Tryz.func189,Tryz.ntmps189
  go_upto_region 2 with fail
  rw[HW1.out]
  clear HW1
  have nbw:(Value.slice Av s.bad.length cv).ownBlock≠some w0.heap.size:=fun h=>by have:=(hlt0 _ h).1;omega
  have kva:=Lib.hid (fun o=>(((Below.refl w1.heap.size w1).alloc (Nat.le_refl _) o).drew.cell (p:=⟨w0.heap.size,1,none⟩) kl).trans kv)
  have kfa:=Lib.hid (fun o=>(((Below.refl w1.heap.size w1).alloc (Nat.le_refl _) o).drew.frozen (p:=⟨w0.heap.size,1,none⟩) kl).trans kf)
  have ksz:Hid (∀o,w0.heap.size<(w1.alloc o).drew.heap.size):=fun o=>by show w0.heap.size<(w1.alloc o).heap.size;rw[World.size_alloc];omega
  go_region_law (
    (refine step_append_lies _ (by rfl) _ _ _ (by rfl) B 89 ip (.agg #[.int .i64 0,.int .i64 0,.int .i64 0]) 3 24 Tryz.underlying85 hip hz0 hz1 hz2 rfl (by omega) (.slice Av s.bad.length cv) s.bad.length (dicells s.bad) (by rfl) (by first|exact(hown.alloc _).drew|exact(hown.drew).alloc _) ⟨w1.heap.size,0,none⟩ 1 1 [.int .i64 xn,.int .i64 col,.int .i64 er] (by rfl) (by rfl) (World.news_of_block (cs := #[.int .i64 xn,.int .i64 col,.int .i64 er]) (t:=89) (fr:=(0,0)) (heap_alloc_new w1 _)) (by simp[Value.oneCell']) (by omega) (by unfold maxLen;omega) (by omega) (by simp;omega) (w1.heap.size+1) (by simp) ?_;intro gg cap w3 hown3 hgrow hat hlt3;have kv3:w3.cell? ⟨w0.heap.size,1,none⟩=some (.slice Av s.bad.length cv):=(hgrow.cell_far ⟨w0.heap.size,1,none⟩ (ksz.out _) (Ne.symm nbw)).trans (kva.out _);have kf3:w3.frozen? ⟨w0.heap.size,1,none⟩=false:=(hgrow.frozen_far ⟨w0.heap.size,1,none⟩ (ksz.out _) (Ne.symm nbw)).trans (kfa.out _)))
  all_goals
   have P:=CpR.push (s':=s.fail x er) h ((B1.out.alloc B1.out.size _).drew) hown3 hgrow HS.out
   have HP:=Lib.hid P
   clear P hown3 hgrow kv3 kf3
   go_end0
   exact⟨rfl,_,HP.out.1,HP.out.2,fun e=>absurd e HE.out⟩
end Go.Proofs.YtgmehlgfilpleaaGreatDoor
