/-
  Several texts as one.
-/
import Derived.Test.YtgmehlgfilpleaaGreatDoorCalG
import Derived.Test.YtgmehlgfilpleaaGreatDoorMG21
import Derived.Test.YtgmehlgfilpleaaGreatDoorMG09
import Derived.Test.YtgmehlgfilpleaaGreatDoorMG01
import Derived.Laws.BytesString
import Derived.Laws.Cells
namespace Go.Proofs.YtgmehlgfilpleaaGreatDoor
open Go.RowKit Go.Lib
set_option linter.unusedVariables false
set_option linter.unusedSimpArgs false
def cyc26:List UInt8:=[50,54,49,50]
theorem cd26:cdE 2612=0∧cdF 2612=9826∧cdT 2612=9854:=by decide +kernel
theorem cycleDays_26 (w:World):Calls Tryz.prog 119 #[.int .i64 2612] w fun e w'=>e=.returned (.tuple #[.int .i64 9826,.int .i64 9854,.int .i64 0])∧w=w':=by
 have h:=cycleDays_any 2612 w
 rw[cd26.1,cd26.2.1,cd26.2.2] at h
 exact h
theorem parseCycle_26 (w:World):Calls Tryz.prog 258 #[.string (sb cyc26)] w fun e w'=>e=.returned (.tuple #[.int .i64 2612,.int .i64 0])∧w=w':=by
 go_enter Tryz.func258,Tryz.ntmps258
 go_wp2_with fail
 refine(cnumber_any (sb cyc26) _ (by decide)).mono ?_
 rintro e w1 ⟨rfl,rfl⟩
 rw[bl_sb,show cyc26.all digC=true by decide,show numV cyc26=2612 by decide]
 have hsz:(sb cyc26).size=4:=rfl
 go_wp2_with fail
 refine(cycleDays_26 _).mono ?_
 rintro e w1 ⟨rfl,rfl⟩
 go_wp2
 go_ret2
 exact⟨rfl,rfl⟩
end Go.Proofs.YtgmehlgfilpleaaGreatDoor
namespace Go.Proofs.YtgmehlgfilpleaaGreatDoor
open Go.RowKit
set_option linter.unusedVariables false
set_option linter.unusedSimpArgs false
theorem CpR.frm {w0:World} {B:Nat} {lv:Value} {s:Cp} {bv av:Value} {L:List (El × EV)} {w w':World} {S:Nat→Prop} (h:CpR w0 B lv s bv av L w) (hf:Frm S w w') (h0:¬S w0.heap.size)
  (hr:∀k cur t z,w.heap[k]? = some (.cells cur t z)→(t=89∨t=187∨t=53)→¬S k) (hlo:∀k,S k→w0.heap.size≤k):CpR w0 B lv s bv av L w' :=
 ⟨(hf.block _ h.lt h0).trans h.bx,own_frm h.bad hf (fun k cur z hh=>hr k cur _ z hh (.inl rfl)),h.all.frm hf (fun k cur z hh=>hr k cur _ z hh (.inr (.inl rfl))),h.eq,h.be.trans (hf.below (Nat.le_of_lt h.lt) hlo),
  fun p hp=>(h.el p hp).frm hf (fun k cur z hh=>hr k cur _ z hh (.inr (.inr rfl))),h.lo,Nat.le_trans h.hi hf.size⟩
theorem Off.frm {g:Nat} {w w':World} (h:Off g w w'):Frm (· = g) w w':=⟨h.os,h.tape,h.output,h.size,fun k hk hn=>h.block k hk (fun e=>by injection e with e;exact hn (by first|exact e|exact e.symm))⟩
theorem CpR.off {w0:World} {B:Nat} {lv:Value} {s:Cp} {bv av:Value} {L:List (El × EV)} {w w':World} {g:Nat} {sc:Sc} (h:CpR w0 B lv s bv av L w) (hs:ScP w g sc) (ho:Off g w w') (hg:w0.heap.size<g):CpR w0 B lv s bv av L w':=by
 obtain⟨_,v,hb,_⟩:=hs
 refine h.frm ho.frm (by omega) (fun k cur t z hh ht e => ?_) (fun k hk=>by omega)
 rw[e,hb] at hh
 simp only[Option.some.injEq,Obj.cells.injEq] at hh
 rcases ht with ht|ht|ht <;> (rw[ht] at hh;exact absurd hh.2.1 (by decide))
theorem CpR.put {w0:World} {B:Nat} {lv:Value} {s:Cp} {bv av:Value} {L:List (El × EV)} {w:World} (h:CpR w0 B lv s bv av L w) (j:Nat) (u:Value) (s':Cp) (hs:cpC lv bv av s'=(cpC lv bv av s).setIfInBounds j u) (hb:s'.bad=s.bad) (ha:s'.all=s.all) :
  CpR w0 B lv s' bv av L (w.setCell ⟨w0.heap.size,j,none⟩ u):=by
 have hf:Frm (· = w0.heap.size) w (w.setCell ⟨w0.heap.size,j,none⟩ u):=⟨rfl,rfl,rfl,by simp,fun k hk hn=>heap_setCell_other w ⟨w0.heap.size,j,none⟩ k u hn⟩
 have hty:∀(k:Nat) cur t z,w.heap[k]? = some (.cells cur t z)→t≠180→¬(k=w0.heap.size):=fun k cur t z hh ht e=>by
  rw[e,h.bx] at hh
  simp only[Option.some.injEq,Obj.cells.injEq] at hh
  exact ht hh.2.1.symm
 refine⟨by rw[hs];exact h.bx.set j u,?_,?_,by rw[ha];exact h.eq,h.be.setCell (Nat.le_refl _) _,fun p hp=>(h.el p hp).frm hf (fun k cur z hh=>hty k cur _ z hh (by decide)),h.lo,by simpa using h.hi⟩
 ·rw[hb];exact own_frm h.bad hf (fun k cur z hh=>hty k cur _ z hh (by decide))
 ·rw[ha];exact h.all.frm hf (fun k cur z hh=>hty k cur _ z hh (by decide))
theorem cpC_str {lv bv av:Value} {s:Cp} {o:Nat} {x:ByteArray} {w:World} {b:Nat} (h:Bx b (cpC lv bv av s) 180 w) (hl:∀y,lv ≠ .string y) (hb:∀y,bv ≠ .string y) (ha:∀y,av ≠ .string y) (k:w.cell? ⟨b,o,none⟩=some (.string x)):o=2:=by
 unfold World.cell? at k
 rw[h] at k
 unfold cpC at k
 match o,k with
 | 0,k=>exact absurd (Option.some.inj k) (hl x)
 | 1,k=>exact absurd (Option.some.inj k) (hb x)
 | 2,_=>rfl
 | 3,k=>cases k
 | 4,k=>cases k
 | 5,k=>cases k
 | 6,k=>cases k
 | 7,k=>cases k
 | 8,k=>exact absurd (Option.some.inj k) (ha x)
 | 9,k=>cases k
 | 10,k=>cases k
 | 11,k=>cases k
 | o+12,k=>simp at k
theorem rd_nostr {w:World} {size n:Nat} {v:Value} {xs:List Value} (h:Rd w size v n xs):∀y,v ≠ .string y:=by
 obtain⟨A,c,rfl,_,_⟩:=h.form
 intro y e;cases e
theorem ScP.c0 {w w0:World} {g B:Nat} {sc:Sc} {lv:Value} {s:Cp} {bv av:Value} {L:List (El × EV)} (h:ScP w g sc) (hc:CpR w0 B lv s bv av L w) (hl:∀y,lv ≠ .string y) (hg:w0.heap.size<g) (h2:2≤sc.fs.length) (j:Nat) (u:Value):ScP (w.setCell ⟨w0.heap.size,j,none⟩ u) g sc:=by
 obtain⟨hn,v,hb,A,c,hv,hcc,hm,hf,hr⟩:=h
 refine⟨hn,v,(heap_setCell_other w ⟨w0.heap.size,j,none⟩ g u (Nat.ne_of_gt hg)).trans hb,A,c,hv,hcc,hm,hf,fun h0 => ?_⟩
 obtain⟨b,o,hA,hbg,hx⟩:=hr h0
 refine⟨b,o,hA,hbg,fun i x hi => ?_⟩
 have hne:b≠w0.heap.size:=fun e=>by
  obtain⟨f0,h00⟩:∃f,sc.fs[0]? = some f:=⟨_,List.getElem?_eq_getElem (by omega)⟩
  have a0:=(ficells_at sc.fs 0 (by omega)).1
  have a1:=(ficells_at sc.fs 1 (by omega)).1
  have k0:=hx _ _ a0
  have k1:=hx _ _ a1
  rw[e] at k0 k1
  have e0:=cpC_str hc.bx hl (rd_nostr (Rd.of_own hc.bad)) (rd_nostr hc.all.1) k0
  have e1:=cpC_str hc.bx hl (rd_nostr (Rd.of_own hc.bad)) (rd_nostr hc.all.1) k1
  omega
 exact(World.cell?_of_block (w:=w) (a:=⟨b,o+i,none⟩) (heap_setCell_other w ⟨w0.heap.size,j,none⟩ b u hne)).trans (hx i x hi)
structure DbS (w0:World) (B:Nat) (lv:Value) (bv av:Value) (L:List (El × EV)) (w:World) (g:Nat) (c:Cp) (sc:Sc) (wr:World):Prop where
 cp:CpR w0 B lv c bv av L wr
 sc:ScP wr g sc
 gl:w.heap.size≤g
 wl:w0.heap.size<w.heap.size
 fr:Frm (· = w0.heap.size) w wr
theorem DbS.call {w0:World} {B:Nat} {lv:Value} {bv av:Value} {L:List (El × EV)} {w:World} {g:Nat} {c:Cp} {sc sc':Sc} {wr w':World} (h:DbS w0 B lv bv av L w g c sc wr) (hp:ScPost sc' g wr w'):DbS w0 B lv bv av L w g c sc' w':=by
 obtain⟨hs,ho⟩:=hp
 have gl:=h.gl
 have wl:=h.wl
 exact⟨h.cp.off h.sc ho (by omega),hs,gl,wl,⟨ho.os.trans h.fr.os,ho.tape.trans h.fr.tape,ho.output.trans h.fr.output,Nat.le_trans h.fr.size ho.size,fun k hk hn=>(ho.block k (Nat.lt_of_lt_of_le hk h.fr.size) (fun e=>by injection e with e;omega)).trans (h.fr.block k hk hn)⟩⟩
theorem DbS.put {w0:World} {B:Nat} {lv:Value} {bv av:Value} {L:List (El × EV)} {w:World} {g:Nat} {c:Cp} {sc:Sc} {wr:World} (h:DbS w0 B lv bv av L w g c sc wr) (hl:∀y,lv ≠ .string y) (h2:2≤sc.fs.length) (j:Nat) (u:Value) (c':Cp) (hs:cpC lv bv av c'=(cpC lv bv av c).setIfInBounds j u) (hb:c'.bad=c.bad) (ha:c'.all=c.all) :
  DbS w0 B lv bv av L w g c' sc (wr.setCell ⟨w0.heap.size,j,none⟩ u):=by
 have gl:=h.gl
 have wl:=h.wl
 exact⟨h.cp.put j u c' hs hb ha,h.sc.c0 h.cp hl (by omega) h2 j u,gl,wl,⟨h.fr.os,h.fr.tape,h.fr.output,by simpa using h.fr.size,fun k hk hn=>(heap_setCell_other wr ⟨w0.heap.size,j,none⟩ k u hn).trans (h.fr.block k hk hn)⟩⟩
theorem DbS.then_ {w0:World} {B:Nat} {lv:Value} {bv av:Value} {L:List (El × EV)} {w:World} {g:Nat} {c:Cp} {sc:Sc} {wr w':World} (h:DbS w0 B lv bv av L w g c sc wr) (hb:Below wr.heap.size wr w'):DbS w0 B lv bv av L w g c sc w' :=
 ⟨h.cp.below hb,h.sc.below hb,h.gl,h.wl,h.fr.trans (Frm.of_below hb)⟩
set_option maxHeartbeats 1000000 in
theorem scanned_ok (w0:World) (sc:Sc) (g:Nat) (w:World) (h:ScP w g sc) (he:sc.endB=false) :
  Calls Tryz.prog 261 #[.pointer (some ⟨w0.heap.size,0,none⟩),.pointer (some ⟨g,0,none⟩)] w fun e w'=>e=.returned (.tuple #[])∧Below w.heap.size w w':=by
 have hE:=endS_any sc g w h
 unfold EndPost at hE
 rw[he] at hE
 have HE:=Lib.hid hE
 clear hE he h
 go_enter Tryz.func261,Tryz.ntmps261
 go_wp2_with fail
 refine HE.out.mono ?_
 rintro e w1 ⟨rfl,hb⟩
 have HB:Hid (Below w.heap.size w (w1.alloc (.cells #[.int .i64 sc.endL,.int .i64 sc.endC,.int .i64 sc.endE] 89))):=hb.alloc hb.size _
 clear HE hb
 go_wp2
 go_end0
 exact⟨rfl,HB.out⟩
def pos46:List UInt8:=[78,52,54,48,48,48,48,48,48,87,49,50,48,48,48,48,48,48,48]
def hdF:List FldI:=[([68,65,84,65,66,65,83,69],1),([87,69,83,84],10),(cyc26,15),(pos46,20)]
def Cp.head (s:Cp):Cp:={s with nm:=[87,69,83,84],cy:=2612,fr:=9826,tu:=9854,la:=16560000,lo := -43200000}
def hq1:Sc:=(scan0 1 hdF).take
def hq2:Sc:=hq1.tk (nameSE 8)
def hq3:Sc:=hq2.take
def hq4:Sc:=hq3.tk posPErr
theorem hq_vals:hq1.tv [] (nameSV 8)=[87,69,83,84]∧hq2.text=cyc26∧hq3.note hq3.la 0=hq3∧hq3.tv 0 posPLat=16560000∧hq3.tv 0 posPLon = -43200000∧hq4.endB=false :=
 ⟨by decide +kernel,by decide +kernel,Sc.note_zero _ _,by decide +kernel,by decide +kernel,by decide +kernel⟩
set_option maxRecDepth 100000 in
set_option maxHeartbeats 4000000 in
theorem database_ex (w0:World) (B:Nat) (lv:Value) (s:Cp) (bv av:Value) (L:List (El × EV)) (fv:Value) (w:World) (h:CpR w0 B lv s bv av L w) (hl:∀y,lv ≠ .string y) (hf:FsR w0 w0.heap.size fv hdF) :
  Calls Tryz.prog 182 #[.pointer (some ⟨w0.heap.size,0,none⟩),.agg #[.int .i64 1,fv]] w
   fun e w'=>e=.returned (.tuple #[])∧CpR w0 B lv s.head bv av L w'∧Frm (· = w0.heap.size) w w':=by
 obtain⟨v1,v2,v3,v4,v5,v6⟩:=hq_vals
 have HV1:=Lib.hid v1
 have HV2:=Lib.hid v2
 have HV3:=Lib.hid v3
 have HV4:=Lib.hid v4
 have HV5:=Lib.hid v5
 have HV6:=Lib.hid v6
 clear v1 v2 v3 v4 v5 v6
 obtain⟨A,c,rfl,hc,hm⟩:=fld_le hf
 obtain⟨wA,hwA⟩:∃W,w.alloc (.cells #[.int .i64 1,.slice A hdF.length c] 184)=W:=⟨_,rfl⟩
 have BA:Hid (Below w.heap.size w wA):=by rw[←hwA];exact(Below.refl _ _).alloc (Nat.le_refl _) _
 have CA:=Lib.hid (h.below BA.out)
 have FA:Hid (FsR wA wA.heap.size (.slice A hdF.length c) hdF):=(hf.keep fun k hk=>CA.out.be.block k hk).mono CA.out.be.size
 have c0:wA.cell? ⟨w.heap.size,0,none⟩=some (.int .i64 1):=by rw[←hwA];simp[go_sem]
 have c1:wA.cell? ⟨w.heap.size,1,none⟩=some (.slice A hdF.length c):=by rw[←hwA];simp[go_sem]
 have hlt:=h.lt
 have HW:=Lib.hid hwA
 have HL:=Lib.hid hl
 have HH:=Lib.hid h
 clear hwA hf h hl
 go_enter Tryz.func182,Tryz.ntmps182
 go_wp2_with fail
 rw[HW.out]
 clear HW
 refine(scan_any 1 _ hdF _ FA.out (by decide)).mono ?_
 rintro e w1 ⟨g,rfl,hg,hsc,hb1⟩
 have D1:Hid (DbS w0 B lv bv av L w g s (scan0 1 hdF) w1):=⟨CA.out.below hb1,hsc,Nat.le_trans BA.out.size hg,hlt,(Frm.of_below BA.out).trans (Frm.of_below hb1)⟩
 clear hg hsc hb1 CA FA c0 c1
 go_wp2_with fail
 refine(field_any _ g _ D1.out.sc).mono ?_
 rintro e w2 ⟨rfl,hp⟩
 have D2:Hid (DbS w0 B lv bv av L w g s hq1 w2):=D1.out.call hp
 clear hp D1
 go_wp2_with fail
 refine(nameS_any 8 hq1 g _ (by decide +kernel) D2.out.sc).mono ?_
 rintro e w3 ⟨rfl,hp⟩
 rw[HV1.out]
 have D3Z:Hid (DbS w0 B lv bv av L w g s hq2 w3):=D2.out.call hp
 clear hp D2
 have k2:=D3Z.out.cp.bx.cell 2 (u:=.string (sb s.nm)) rfl
 have f2:=D3Z.out.cp.bx.free 2
 have D4:=Lib.hid (D3Z.out.put HL.out (by decide +kernel) 2 (.string (sb [87,69,83,84])) {s with nm:=[87,69,83,84]} rfl rfl rfl)
 clear D3Z
 go_wp2_with fail
 refine(field_any hq2 g _ D4.out.sc).mono ?_
 rintro e w4 ⟨rfl,hp⟩
 rw[HV2.out]
 have D5:Hid (DbS w0 B lv bv av L w g {s with nm:=[87,69,83,84]} hq3 w4):=D4.out.call hp
 clear hp D4 k2 f2
 go_wp2_with fail
 refine(parseCycle_26 _).mono ?_
 rintro e w5 ⟨rfl,rfl⟩
 go_wp2_with fail
 refine(failS_any hq3 0 g _ D5.out.sc).mono ?_
 rintro e w5 ⟨rfl,hp⟩
 rw[HV3.out] at hp
 have D6:Hid (DbS w0 B lv bv av L w g {s with nm:=[87,69,83,84]} hq3 w5):=D5.out.call hp
 clear hp D5
 have k3:=D6.out.cp.bx.cell 3 (u:=.int .i64 s.cy) rfl
 have f3:=D6.out.cp.bx.free 3
 have D7:=Lib.hid (D6.out.put HL.out (by decide +kernel) 3 (.int .i64 2612) {s with nm:=[87,69,83,84],cy:=2612} rfl rfl rfl)
 clear D6
 go_wp2_with fail
 refine(cycleDays_26 _).mono ?_
 rintro e w6 ⟨rfl,rfl⟩
 have k4:=D7.out.cp.bx.cell 4 (u:=.int .i64 s.fr) rfl
 have f4:=D7.out.cp.bx.free 4
 have k5:=D7.out.cp.bx.cell 5 (u:=.int .i64 s.tu) rfl
 have f5:=D7.out.cp.bx.free 5
 have D8:=Lib.hid (D7.out.put HL.out (by decide +kernel) 4 (.int .i64 9826) {s with nm:=[87,69,83,84],cy:=2612,fr:=9826} rfl rfl rfl)
 have D9:=Lib.hid (D8.out.put HL.out (by decide +kernel) 5 (.int .i64 9854) {s with nm:=[87,69,83,84],cy:=2612,fr:=9826,tu:=9854} rfl rfl rfl)
 clear D7 D8
 go_wp2_with fail
 refine(posS_any hq3 g _ (by decide +kernel) D9.out.sc).mono ?_
 rintro e w7 ⟨rfl,hp⟩
 rw[HV4.out,HV5.out]
 have D10:Hid (DbS w0 B lv bv av L w g {s with nm:=[87,69,83,84],cy:=2612,fr:=9826,tu:=9854} hq4 w7):=D9.out.call hp
 clear hp D9 k3 k4 k5 f3 f4 f5
 have k6:=D10.out.cp.bx.cell 6 (u:=.int .i64 s.la) rfl
 have f6:=D10.out.cp.bx.free 6
 have k7:=D10.out.cp.bx.cell 7 (u:=.int .i64 s.lo) rfl
 have f7:=D10.out.cp.bx.free 7
 have D11:=Lib.hid (D10.out.put HL.out (by decide +kernel) 6 (.int .i64 16560000) {s with nm:=[87,69,83,84],cy:=2612,fr:=9826,tu:=9854,la:=16560000} rfl rfl rfl)
 have D12:Hid (DbS w0 B lv bv av L w g s.head hq4 _):=D11.out.put HL.out (by decide +kernel) 7 (.int .i64 (-43200000)) s.head rfl rfl rfl
 clear D10 D11
 go_wp2_with fail
 refine(scanned_ok w0 hq4 g _ D12.out.sc HV6.out).mono ?_
 rintro e w8 ⟨rfl,hb⟩
 have D13:=Lib.hid (D12.out.then_ hb)
 clear hb D12 k6 k7 f6 f7
 go_wp2
 go_end0
 exact⟨rfl,D13.out.cp,D13.out.fr⟩
def viasL:List Ln→List Ln
 | []=>[]
 | x::r=>if (fld x.2 0).1=[86,73,65] then x::viasL r else []
theorem viasL_cons (x:Ln) (r:List Ln):viasL (x::r)=if (fld x.2 0).1=[86,73,65] then x::viasL r else []:=rfl
theorem viasL_yes {x:Ln} {r:List Ln} (h:(fld x.2 0).1=[86,73,65]):(viasL (x::r)).length=(viasL r).length+1:=by rw[viasL_cons,if_pos h,List.length_cons]
theorem viasL_no {x:Ln} {r:List Ln} (h:(fld x.2 0).1≠[86,73,65]):(viasL (x::r)).length=0:=by rw[viasL_cons,if_neg h];rfl
theorem viasL_len (l:List Ln):(viasL l).length≤l.length:=by
 induction l with
 | nil=>exact Nat.le_refl _
 | cons x r ih =>
  by_cases h:(fld x.2 0).1=[86,73,65]
  ·rw[viasL_yes h,List.length_cons];omega
  ·rw[viasL_no h];omega
theorem viasL_pre:∀(l:List Ln),viasL l=l.take (viasL l).length
 | []=>rfl
 | x::r=>by
  by_cases h:(fld x.2 0).1=[86,73,65]
  ·rw[viasL_yes h,List.take_succ_cons,←viasL_pre r,viasL_cons,if_pos h]
  ·rw[viasL_no h,viasL_cons,if_neg h];rfl
def ViaTo (l:List Ln) (k:Nat):Prop:=k≤(viasL l).length
theorem viaTo_step {l:List Ln} {k:Nat} (h:ViaTo l k) (hk:k<l.length) (hw:(fld l[k].2 0).1=[86,73,65]):ViaTo l (k+1):=by
 induction l generalizing k with
 | nil=>simp at hk
 | cons x r ih =>
  unfold ViaTo at *
  cases k with
  | zero =>
   simp only[List.getElem_cons_zero] at hw
   rw[viasL_yes hw];omega
  | succ k =>
   by_cases hx:(fld x.2 0).1=[86,73,65]
   ·rw[viasL_yes hx] at h ⊢
    have:=ih (k:=k) (by omega) (by simpa using hk) (by simpa using hw)
    omega
   ·rw[viasL_no hx] at h;omega
theorem viaTo_end {l:List Ln} {k:Nat} (h:ViaTo l k) (he:∀hk:k<l.length,(fld l[k].2 0).1≠[86,73,65]):(viasL l).length=k:=by
 induction l generalizing k with
 | nil=>unfold ViaTo at h;simp only[viasL,List.length_nil] at h ⊢;omega
 | cons x r ih =>
  unfold ViaTo at *
  cases k with
  | zero =>
   have:=he (by simp)
   simp only[List.getElem_cons_zero] at this
   exact viasL_no this
  | succ k =>
   by_cases hx:(fld x.2 0).1=[86,73,65]
   ·rw[viasL_yes hx] at h ⊢
    have:=ih (k:=k) (by omega) (fun hk=>by have:=he (by simpa using hk);simpa using this)
    omega
   ·rw[viasL_no hx] at h;omega
def viaV (g o c i m:Nat):Value:=if c=i+1 then .slice (some ⟨g,o,none⟩) m (c-(i+1)) else .slice (some ⟨g,o+(i+1)*2,none⟩) m (c-(i+1))
theorem lns_sub {w:World} {g o c:Nat} {L:List Ln} (h:LnsR w (.slice (some ⟨g,o,none⟩) L.length c) L) (i:Nat) (hi:i<L.length):LnsR w (viaV g o c i (viasL (L.drop (i+1))).length) (viasL (L.drop (i+1))):=by
 obtain⟨A,c',hv,hc,hm,hok,hr⟩:=h
 simp only[Value.slice.injEq,true_and] at hv
 obtain⟨rfl,rfl⟩:=hv
 obtain⟨g',o',hA,hg,hx⟩:=hr (by omega)
 simp only[Option.some.injEq,Addr.mk.injEq,and_true] at hA
 obtain⟨rfl,rfl⟩:=hA
 have hl:=viasL_len (L.drop (i+1))
 rw[List.length_drop] at hl
 have hp:=viasL_pre (L.drop (i+1))
 obtain⟨V,hV⟩:∃V,viasL (L.drop (i+1))=V:=⟨_,rfl⟩
 rw[hV] at hl hp ⊢
 have hat:∀k (hk:k<V.length),V[k]=L[i+1+k]'(by omega):=fun k hk=>by
  have h1:V[k]? = (L.drop (i+1))[k]? := by
   conv=>lhs;rw[hp]
   rw[List.getElem?_take,if_pos hk]
  rw[List.getElem?_drop,List.getElem?_eq_getElem hk,List.getElem?_eq_getElem (by omega)] at h1
  exact Option.some.inj h1
 unfold viaV
 split
 ·next e =>
  have hV0:V.length=0:=by omega
  refine⟨_,_,rfl,by omega,by omega,fun x hx => ?_,fun h0=>by omega⟩
  rw[List.eq_nil_of_length_eq_zero hV0] at hx;cases hx
 ·refine⟨_,_,rfl,by omega,by omega,fun x hx => ?_,fun h0=>⟨g,o+(i+1)*2,rfl,hg,fun k hk => ?_⟩⟩
  ·obtain⟨k,hk,rfl⟩:=List.mem_iff_getElem.1 hx
   rw[hat k hk];exact hok _ (List.getElem_mem _)
  ·obtain⟨fv,h1,h2,h3⟩:=hx (i+1+k) (by omega)
   rw[hat k hk]
   refine⟨fv,?_,?_,h3⟩
   ·rw[show o+(i+1)*2+k*2=o+(i+1+k)*2 by omega];exact h1
   ·rw[show o+(i+1)*2+k*2+1=o+(i+1+k)*2+1 by omega];exact h2
set_option maxRecDepth 100000 in
set_option maxHeartbeats 4000000 in
theorem vias_any (w0:World) (B:Nat) (g o c:Nat) (Ls:List Ln) (s:Cp) (bv av:Value) (L:List (El × EV)) (i:Nat) (w:World) (h:CpR w0 B (.slice (some ⟨g,o,none⟩) Ls.length c) s bv av L w) (hl:LnsR w0 (.slice (some ⟨g,o,none⟩) Ls.length c) Ls) (hi:i<Ls.length) (hN:Ls.length≤1000000) (hf:∀x∈Ls,0<x.2.length) :
  Calls Tryz.prog 185 #[.pointer (some ⟨w0.heap.size,0,none⟩),.int .i64 (i:Int)] w fun e w'=>e=.returned (viaV g o c i (viasL (Ls.drop (i+1))).length)∧w=w':=by
 have k0:=h.bx.cell 0 rfl
 have HL:=Lib.hid (hl.below h.be)
 have hcf:=hl.form
 obtain⟨A1,c1,hv1,hc1,hm1⟩:=hcf
 simp only[Value.slice.injEq,true_and] at hv1
 obtain⟨-,hcc⟩:=hv1
 rw[←hcc] at hc1 hm1
 unfold maxLen at hm1
 obtain⟨n,hn⟩:∃n,Ls.length=n:=⟨_,rfl⟩
 have HN:=Lib.hid hn
 have HF:=Lib.hid hf
 have hdl:(Ls.drop (i+1)).length=n-(i+1):=by rw[List.length_drop,hn]
 have HDL:=Lib.hid hdl
 rw[hn] at hi hN hc1 k0 HL
 replace k0:w.cell? ⟨w0.heap.size,0,none⟩=some (.slice (some ⟨g,o,none⟩) n c):=k0
 clear h hl hcc hn hf hdl
 go_enter Tryz.func185,Tryz.ntmps185
 go_wp2
 go_loop [5] (fun jv=>∃k:Nat,i+1≤k∧k≤n∧jv=.int .i64 (k:Int)∧Hid (ViaTo (Ls.drop (i+1)) (k-(i+1)))) (fun jv=>n-(intOf jv).toNat)
 case atStart=>exact⟨i+1,Nat.le_refl _,hi,by first|rfl|go_num,by unfold Hid ViaTo;omega⟩
 case round =>
  obtain⟨k,hik,hk,rfl,hvt⟩:=hrel
  have HFIN:Hid (∀hstop:(∀hk:k-(i+1)<(Ls.drop (i+1)).length,(fld (Ls.drop (i+1))[k-(i+1)].2 0).1≠[86,73,65]),(viasL (Ls.drop (i+1))).length=k-(i+1)):=fun hs=>viaTo_end hvt.out hs
  by_cases hlt:k<n
  ·have hkl:k<Ls.length:=by rw[HN.out];exact hlt
   obtain⟨g',o',c',fv,hv,hg',y0,y1,hfs,hok⟩:=HL.out.at_ (k:=k) hkl
   rw[HN.out] at hv
   simp only[Value.slice.injEq,Option.some.injEq,Addr.mk.injEq,true_and,and_true] at hv
   obtain⟨⟨rfl,rfl⟩,rfl⟩:=hv
   have hpos:=HF.out _ (List.getElem_mem hkl)
   have hgd:(Ls.drop (i+1))[k-(i+1)]'(by rw[HDL.out];omega)=Ls[k]:=by rw[List.getElem_drop];congr 1;omega
   obtain⟨b,o2,cc,rfl,hb,z0,z1,_⟩:=hfs.at_ (k:=0) hpos
   simp only[Nat.zero_mul,Nat.add_zero] at z0
   have HGD:=Lib.hid hgd
   obtain⟨m,hm⟩:∃m,Ls[k].2.length=m:=⟨_,rfl⟩
   rw[hm] at y1 hpos
   have hmi:(0:Int)<(m:Int):=by omega
   have hki:(k:Int)<(n:Int):=by omega
   obtain⟨t,ht⟩:∃t,(fld Ls[k].2 0).1=t:=⟨_,rfl⟩
   rw[ht] at z0
   have HT:=Lib.hid ht
   clear hfs hok hgd hm y0 z1 ht
   by_cases hw:t=[86,73,65]
   ·have ew:((sb t).toList == [86,73,65])=true:=by rw[bl_toList,bl_sb,hw];rfl
    have HS:Hid (ViaTo (Ls.drop (i+1)) (k+1-(i+1))):=by
     have:=viaTo_step hvt.out (by rw[HDL.out];omega) (by rw[HGD.out,HT.out];exact hw)
     rw[show k+1-(i+1)=k-(i+1)+1 by omega];exact this
    clear hw
    go_wp2
    go_round
    case rel=>exact⟨k+1,by omega,hlt,by go_num,HS⟩
    case measure=>simp[intOf];omega
   ·have ew:((sb t).toList == [86,73,65])=false:=by
     rw[bl_toList,bl_sb,beq_eq_false_iff_ne];exact hw
    have HE:Hid ((viasL (Ls.drop (i+1))).length=k-(i+1)):=HFIN.out (fun hk=>by rw[HGD.out,HT.out];exact hw)
    have hc2:¬c=i+1:=by omega
    have HV:Hid (viaV g o c i (k-(i+1))=.slice (some ⟨g,o+(i+1)*2,none⟩) (k-(i+1)) (c-(i+1))):=by unfold Hid viaV;rw[if_neg hc2]
    clear hw
    go_wp2
    go_ret
    rw[HE.out,HV.out]
    exact⟨rfl,rfl⟩
  ·have hkn:k=n:=by omega
   subst hkn
   have HE:Hid ((viasL (Ls.drop (i+1))).length=k-(i+1)):=HFIN.out (fun hk2=>by rw[HDL.out] at hk2;omega)
   by_cases hc2:c=i+1
   ·have HV:Hid (viaV g o c i (k-(i+1))=.slice (some ⟨g,o,none⟩) (k-(i+1)) (c-(i+1))):=by unfold Hid viaV;rw[if_pos hc2]
    have hki:(k:Int)=(i:Int)+1:=by omega
    go_wp2
    go_ret
    rw[HE.out]
    unfold viaV
    rw[show k-(i+1)=0 by omega]
    refine⟨?_,rfl⟩
    first|rw[if_pos rfl,Nat.sub_self]|rw[if_pos hc2,hc2,Nat.sub_self]
    rfl
   ·have HV:Hid (viaV g o c i (k-(i+1))=.slice (some ⟨g,o+(i+1)*2,none⟩) (k-(i+1)) (c-(i+1))):=by unfold Hid viaV;rw[if_neg hc2]
    go_wp2
    go_ret
    rw[HE.out,HV.out]
    exact⟨rfl,rfl⟩
set_option maxRecDepth 4000
set_option linter.unusedVariables false
set_option linter.unusedSimpArgs false
theorem mk4:∀w:World,(Instr.makeSlice 68 (.int .i64 4) (.int .i64 4)).run Tryz.prog w=.ok (.slice (some ⟨w.heap.size,0,none⟩) 4 4) (w.alloc (.cells #[.int .u8 0,.int .u8 0,.int .u8 0,.int .u8 0] 5)):=fun w=>by
 have h:=run_make_row' (P:=Tryz.prog) 68 5 (.int .u8 0) 1 Tryz.underlying68 (by kernel_rfl) rfl .i64 .i64 4 (by omega) (by omega) w
 have e:madeCells #[Value.int .u8 0] 4 = #[.int .u8 0,.int .u8 0,.int .u8 0,.int .u8 0]:=by kernel_rfl
 rw[e] at h
 exact h
set_option maxHeartbeats 4000000 in
theorem digits_26 (w:World):Calls Tryz.prog 169 #[.int .i64 2612,.int .i64 4] w fun e w'=>e=.returned (.string (sb cyc26))∧Below w.heap.size w w':=by
 have hmk:=mk4
 obtain⟨w1,hw1⟩:∃W,w.alloc (.cells #[.int .u8 0,.int .u8 0,.int .u8 0,.int .u8 0] 5)=W:=⟨_,rfl⟩
 have B1:Hid (Below w.heap.size w w1):=by rw[←hw1];exact(Below.refl _ _).alloc (Nat.le_refl _) _
 have X1:Hid (Bx w.heap.size #[.int .u8 0,.int .u8 0,.int .u8 0,.int .u8 0] 5 w1):=by rw[←hw1];exact Bx.last w _ _
 have HW1:=Lib.hid hw1
 clear hw1
 go_enter Tryz.func169,Tryz.ntmps169
 go_wp2_with fail
 rw[HW1.out]
 clear HW1 hmk
 go_loopw [0,6] (fun nv iv wr=>Hid (Below w.heap.size w wr)∧((iv=.int .i64 3∧nv=.int .i64 2612∧Hid (Bx w.heap.size #[.int .u8 0,.int .u8 0,.int .u8 0,.int .u8 0] 5 wr)) ∨
  (iv=.int .i64 2∧nv=.int .i64 261∧Hid (Bx w.heap.size #[.int .u8 0,.int .u8 0,.int .u8 0,.int .u8 50] 5 wr)) ∨
  (iv=.int .i64 1∧nv=.int .i64 26∧Hid (Bx w.heap.size #[.int .u8 0,.int .u8 0,.int .u8 49,.int .u8 50] 5 wr)) ∨
  (iv=.int .i64 0∧nv=.int .i64 2∧Hid (Bx w.heap.size #[.int .u8 0,.int .u8 54,.int .u8 49,.int .u8 50] 5 wr)) ∨
  (iv=.int .i64 (-1)∧nv=.int .i64 0∧Hid (Bx w.heap.size #[.int .u8 50,.int .u8 54,.int .u8 49,.int .u8 50] 5 wr)))) (fun _ iv _=>(intOf iv+1).toNat)
 case atStart=>exact⟨B1,.inl ⟨rfl,rfl,X1⟩⟩
 case round =>
  obtain⟨hb,⟨rfl,rfl,hx⟩|⟨rfl,rfl,hx⟩|⟨rfl,rfl,hx⟩|⟨rfl,rfl,hx⟩|⟨rfl,rfl,hx⟩⟩:=hrel
  ·have k:=hx.out.cell 3 (u:=.int .u8 0) rfl
   have f:=hx.out.free 3
   have kl:=hx.out.lt
   have hx2:Hid (Bx w.heap.size #[.int .u8 0,.int .u8 0,.int .u8 0,.int .u8 50] 5 (wr.setCell ⟨w.heap.size,3,none⟩ (.int .u8 50))):=hx.out.set 3 _
   have hb2:=Lib.hid (hb.out.setCell (p:=⟨w.heap.size,3,none⟩) (Nat.le_refl _) (.int .u8 50))
   go_wp2
   go_roundw
   case rel=>exact⟨hb2,.inr (.inl ⟨rfl,rfl,hx2⟩)⟩
   case measure=>simp[intOf]
  ·have k:=hx.out.cell 2 (u:=.int .u8 0) rfl
   have f:=hx.out.free 2
   have kl:=hx.out.lt
   have hx2:Hid (Bx w.heap.size #[.int .u8 0,.int .u8 0,.int .u8 49,.int .u8 50] 5 (wr.setCell ⟨w.heap.size,2,none⟩ (.int .u8 49))):=hx.out.set 2 _
   have hb2:=Lib.hid (hb.out.setCell (p:=⟨w.heap.size,2,none⟩) (Nat.le_refl _) (.int .u8 49))
   go_wp2
   go_roundw
   case rel=>exact⟨hb2,.inr (.inr (.inl ⟨rfl,rfl,hx2⟩))⟩
   case measure=>simp[intOf]
  ·have k:=hx.out.cell 1 (u:=.int .u8 0) rfl
   have f:=hx.out.free 1
   have kl:=hx.out.lt
   have hx2:Hid (Bx w.heap.size #[.int .u8 0,.int .u8 54,.int .u8 49,.int .u8 50] 5 (wr.setCell ⟨w.heap.size,1,none⟩ (.int .u8 54))):=hx.out.set 1 _
   have hb2:=Lib.hid (hb.out.setCell (p:=⟨w.heap.size,1,none⟩) (Nat.le_refl _) (.int .u8 54))
   go_wp2
   go_roundw
   case rel=>exact⟨hb2,.inr (.inr (.inr (.inl ⟨rfl,rfl,hx2⟩)))⟩
   case measure=>simp[intOf]
  ·have k:=hx.out.cell 0 (u:=.int .u8 0) rfl
   have f:=hx.out.free 0
   have kl:=hx.out.lt
   have hx2:Hid (Bx w.heap.size #[.int .u8 50,.int .u8 54,.int .u8 49,.int .u8 50] 5 (wr.setCell ⟨w.heap.size,0,none⟩ (.int .u8 50))):=hx.out.set 0 _
   have hb2:=Lib.hid (hb.out.setCell (p:=⟨w.heap.size,0,none⟩) (Nat.le_refl _) (.int .u8 50))
   go_wp2
   go_roundw
   case rel=>exact⟨hb2,.inr (.inr (.inr (.inr ⟨rfl,rfl,hx2⟩)))⟩
   case measure=>simp[intOf]
  ·have k0:=hx.out.cell 0 (u:=.int .u8 50) rfl
   have k1:=hx.out.cell 1 (u:=.int .u8 54) rfl
   have k2:=hx.out.cell 2 (u:=.int .u8 49) rfl
   have k3:=hx.out.cell 3 (u:=.int .u8 50) rfl
   have hcv:(convert 68 9 (.slice (some ⟨w.heap.size,0,none⟩) 4 4)).run Tryz.prog wr=.ok (.string (sb cyc26)) wr:=by
    refine(run_convert_bytes_string wr _ _ _ _ _ _ Tryz.underlying68 Tryz.underlying5 Tryz.underlying9).trans ?_
    have hl:=run_loadCells_list (P:=Tryz.prog) (w:=wr) ⟨w.heap.size,0,none⟩ [.int .u8 50,.int .u8 54,.int .u8 49,.int .u8 50] (fun j v hv=>by
     have hadd:(⟨w.heap.size,0,none⟩:Addr).add j=⟨w.heap.size,j,none⟩:=by unfold Addr.add;split <;> simp_all
     rw[hadd];exact hx.out.cell j (by simpa using hv))
    rw[run_bytesToString wr _ 4 4 [50,54,49,50] hl];rfl
   go_wp2
   go_ret
   exact⟨rfl,hb.out⟩
theorem cycleText_26 (w:World):Calls Tryz.prog 105 #[.int .i64 2612] w fun e w'=>e=.returned (.tuple #[.string (sb cyc26),.int .i64 0])∧Below w.heap.size w w':=by
 go_enter Tryz.func105,Tryz.ntmps105
 go_wp2_with fail
 refine(cycleDays_26 _).mono ?_
 rintro e w1 ⟨rfl,rfl⟩
 go_wp2_with fail
 refine(digits_26 _).mono ?_
 rintro e w1 ⟨rfl,hb⟩
 have HB:=Lib.hid hb
 clear hb
 go_wp2
 go_ret2
 exact⟨rfl,HB.out⟩
end Go.Proofs.YtgmehlgfilpleaaGreatDoor
