/-
  Several texts as one.
-/
import Derived.Test.YtgmehlgfilpleaaGreatDoorMG06
import Derived.Test.YtgmehlgfilpleaaGreatDoorMG07
import Derived.Test.YtgmehlgfilpleaaGreatDoorNvJ
import Derived.Test.YtgmehlgfilpleaaGreatDoorMG16
import Derived.Test.YtgmehlgfilpleaaGreatDoorMG12
import Derived.Test.YtgmehlgfilpleaaGreatDoorMG02
import Derived.Test.YtgmehlgfilpleaaGreatDoorMG11
import Derived.Test.YtgmehlgfilpleaaGreatDoorImF
namespace Go.Proofs.YtgmehlgfilpleaaGreatDoor
open Go.RowKit
set_option linter.unusedVariables false
set_option linter.unusedSimpArgs false
def exHd:ImHd:=⟨[87,69,83,84],2612,9826,9854,16560000,-43200000⟩
def exB:List UInt8:=[70,68,66,49]++([1,45,0,0,0]++(([4,87,69,83,84]++numB [2612,9826,9854,16560000,-43200000])++([2,2,0,0,0,0,0]++([3,2,0,0,0,0,0]++[4,2,0,0,0,0,0]))))
theorem exB_len:exB.length=75:=by decide +kernel
theorem exB_rd:rdF exB=some (exHd,[(1,9,45,1),(2,59,2,0),(3,66,2,0),(4,73,2,0)]):=by kernel_rfl
theorem ex_rd:rdRes (sealL exB)=(0,exHd,[(1,9,45,1),(2,59,2,0),(3,66,2,0),(4,73,2,0)]):=by
 have h:=seal_ok exB
 have hl:(sealL exB).length=79:=by unfold sealL;rw[List.length_append,exB_len];rfl
 exact rdRes_some (by omega) h.1 (by rw[h.2];exact exB_rd)
theorem ex_head:(sealL exB).take 9=[70,68,66,49,1,45,0,0,0]:=by
 unfold sealL
 rw[List.take_append_of_le_length (by rw[exB_len];omega)]
 decide +kernel
end Go.Proofs.YtgmehlgfilpleaaGreatDoor
namespace Go.Proofs.YtgmehlgfilpleaaGreatDoor
open Go.RowKit Go.Lib Go.Sort
set_option linter.unusedVariables false
set_option linter.unusedSimpArgs false
structure Cz where
 nm:List UInt8
 cy:Int
 fr:Int
 tu:Int
 la:Int
 lo:Int
 aw:Bool
 pr:Bool
 pt:Bool
def czC (lv:Value) (s:Cz):Array Value := #[lv,.slice none 0 0,.string (sb s.nm),.int .i64 s.cy,.int .i64 s.fr,.int .i64 s.tu,.int .i64 s.la,.int .i64 s.lo,.slice none 0 0,.bool s.aw,.bool s.pr,.bool s.pt]
def cz0:Cz:=⟨[],0,0,0,0,0,false,false,false⟩
def czH:Cz:=⟨[87,69,83,84],2612,9826,9854,16560000,-43200000,false,false,false⟩
def CzB (q:Nat) (lv:Value) (s:Cz) (w:World):Prop:=Bx q (czC lv s) 180 w
theorem Off.frm {g:Nat} {w w':World} (h:Off g w w'):Frm (· = g) w w':=⟨h.os,h.tape,h.output,h.size,fun k hk hn=>h.block k hk (fun e=>by injection e with e;exact hn (by first|exact e|exact e.symm))⟩
theorem czC_str {lv:Value} {s:Cz} {o:Nat} {x:ByteArray} {w:World} {b:Nat} (h:CzB b lv s w) (hl:∀y,lv ≠ .string y) (k:w.cell? ⟨b,o,none⟩=some (.string x)):o=2:=by
 unfold CzB Bx at h
 rw[Lib.cell_of_heap h] at k
 match o,k with
 | 0,k=>exact absurd (by simpa [czC] using k) (hl x)
 | 1,k=>simp[czC] at k
 | 2,_=>rfl
 | 3,k=>simp[czC] at k
 | 4,k=>simp[czC] at k
 | 5,k=>simp[czC] at k
 | 6,k=>simp[czC] at k
 | 7,k=>simp[czC] at k
 | 8,k=>simp[czC] at k
 | 9,k=>simp[czC] at k
 | 10,k=>simp[czC] at k
 | 11,k=>simp[czC] at k
 | o+12,k=>simp[czC] at k
theorem ScP.cz {w:World} {g q:Nat} {sc:Sc} {lv:Value} {s:Cz} (h:ScP w g sc) (hc:CzB q lv s w) (hl:∀y,lv ≠ .string y) (hg:q<g) (h2:2≤sc.fs.length) (j:Nat) (u:Value):ScP (w.setCell ⟨q,j,none⟩ u) g sc:=by
 obtain⟨hn,v,hb,A,c,hv,hcc,hm,hf,hr⟩:=h
 refine⟨hn,v,(heap_setCell_other w ⟨q,j,none⟩ g u (Nat.ne_of_gt hg)).trans hb,A,c,hv,hcc,hm,hf,fun h0 => ?_⟩
 obtain⟨b,o,hA,hbg,hx⟩:=hr h0
 refine⟨b,o,hA,hbg,fun i x hi => ?_⟩
 have hne:b≠q:=fun e=>by
  obtain⟨f0,h00⟩:∃f,sc.fs[0]? = some f:=⟨_,List.getElem?_eq_getElem (by omega)⟩
  have a0:=(ficells_at sc.fs 0 (by omega)).1
  have a1:=(ficells_at sc.fs 1 (by omega)).1
  have k0:=hx _ _ a0
  have k1:=hx _ _ a1
  rw[e] at k0 k1
  have e0:=czC_str hc hl k0
  have e1:=czC_str hc hl k1
  omega
 exact(World.cell?_of_block (w:=w) (a:=⟨b,o+i,none⟩) (heap_setCell_other w ⟨q,j,none⟩ b u hne)).trans (hx i x hi)
theorem CzB.lt {q:Nat} {lv:Value} {s:Cz} {w:World} (h:CzB q lv s w):q<w.heap.size:=Bx.lt h
structure DzS (q:Nat) (lv:Value) (w:World) (g:Nat) (c:Cz) (sc:Sc) (wr:World):Prop where
 cp:CzB q lv c wr
 sc:ScP wr g sc
 gl:w.heap.size≤g
 wl:q<w.heap.size
 fr:Frm (· = q) w wr
theorem DzS.call {q:Nat} {lv:Value} {w:World} {g:Nat} {c:Cz} {sc sc':Sc} {wr w':World} (h:DzS q lv w g c sc wr) (hp:ScPost sc' g wr w'):DzS q lv w g c sc' w':=by
 obtain⟨hs,ho⟩:=hp
 have gl:=h.gl
 have wl:=h.wl
 exact⟨(ho.frm.block q h.cp.lt (by omega)).trans h.cp,hs,gl,wl,⟨ho.os.trans h.fr.os,ho.tape.trans h.fr.tape,ho.output.trans h.fr.output,Nat.le_trans h.fr.size ho.size,fun k hk hn=>(ho.block k (Nat.lt_of_lt_of_le hk h.fr.size) (fun e=>by injection e with e;omega)).trans (h.fr.block k hk hn)⟩⟩
theorem DzS.put {q:Nat} {lv:Value} {w:World} {g:Nat} {c:Cz} {sc:Sc} {wr:World} (h:DzS q lv w g c sc wr) (hl:∀y,lv ≠ .string y) (h2:2≤sc.fs.length) (j:Nat) (u:Value) (c':Cz) (hs:czC lv c'=(czC lv c).setIfInBounds j u) :
  DzS q lv w g c' sc (wr.setCell ⟨q,j,none⟩ u):=by
 have gl:=h.gl
 have wl:=h.wl
 refine⟨?_,h.sc.cz h.cp hl (by omega) h2 j u,gl,wl,⟨h.fr.os,h.fr.tape,h.fr.output,by simpa using h.fr.size,fun k hk hn=>(heap_setCell_other wr ⟨q,j,none⟩ k u hn).trans (h.fr.block k hk hn)⟩⟩
 unfold CzB;rw[hs];exact Bx.set h.cp j u
theorem DzS.then_ {q:Nat} {lv:Value} {w:World} {g:Nat} {c:Cz} {sc:Sc} {wr w':World} (h:DzS q lv w g c sc wr) (hb:Below wr.heap.size wr w'):DzS q lv w g c sc w' :=
 ⟨Bx.via hb h.cp,h.sc.below hb,h.gl,h.wl,h.fr.trans (Frm.of_below hb)⟩
set_option maxHeartbeats 1000000 in
theorem scanned_z (q:Nat) (sc:Sc) (g:Nat) (w:World) (h:ScP w g sc) (he:sc.endB=false) :
  Calls Tryz.prog 261 #[.pointer (some ⟨q,0,none⟩),.pointer (some ⟨g,0,none⟩)] w fun e w'=>e=.returned (.tuple #[])∧Below w.heap.size w w':=by
 have hE:=endS_any sc g w h
 unfold EndPost at hE
 rw[he] at hE
 have HE:=Lib.hid hE
 clear hE he h
 go_enter Tryz.func261,Tryz.ntmps261
 go_wp2_with fail
 refine HE.out.mono ?_
 rintro e w1 ⟨rfl,hb⟩
 have HB:Hid (Below w.heap.size w (w1.alloc (.cells #[.int .i64 sc.endL,.int .i64 sc.endC,.int .i64 sc.endE] 89))):=hb.alloc hb.size _
 clear HE hb
 go_wp2
 go_end0
 exact⟨rfl,HB.out⟩
def pos46:List UInt8:=[78,52,54,48,48,48,48,48,48,87,49,50,48,48,48,48,48,48,48]
def hdF:List FldI:=[([68,65,84,65,66,65,83,69],1),([87,69,83,84],10),(cyc26,15),(pos46,20)]
def hq1:Sc:=(scan0 1 hdF).take
def hq2:Sc:=hq1.tk (nameSE 8)
def hq3:Sc:=hq2.take
def hq4:Sc:=hq3.tk posPErr
theorem hq_vals:hq1.tv [] (nameSV 8)=[87,69,83,84]∧hq2.text=cyc26∧hq3.note hq3.la 0=hq3∧hq3.tv 0 posPLat=16560000∧hq3.tv 0 posPLon = -43200000∧hq4.endB=false :=
 ⟨by decide +kernel,by decide +kernel,Sc.note_zero _ _,by decide +kernel,by decide +kernel,by decide +kernel⟩
set_option maxRecDepth 100000 in
set_option maxHeartbeats 4000000 in
theorem database_z (q:Nat) (lv fv:Value) (w:World) (h:CzB q lv cz0 w) (hl:∀y,lv ≠ .string y) (hf:FsR w w.heap.size fv hdF) :
  Calls Tryz.prog 182 #[.pointer (some ⟨q,0,none⟩),.agg #[.int .i64 1,fv]] w
   fun e w'=>e=.returned (.tuple #[])∧CzB q lv czH w'∧Frm (· = q) w w':=by
 obtain⟨v1,v2,v3,v4,v5,v6⟩:=hq_vals
 have HV1:=Lib.hid v1
 have HV2:=Lib.hid v2
 have HV3:=Lib.hid v3
 have HV4:=Lib.hid v4
 have HV5:=Lib.hid v5
 have HV6:=Lib.hid v6
 clear v1 v2 v3 v4 v5 v6
 obtain⟨A,c,rfl,hc,hm⟩:=fld_le hf
 obtain⟨wA,hwA⟩:∃W,w.alloc (.cells #[.int .i64 1,.slice A hdF.length c] 184)=W:=⟨_,rfl⟩
 have BA:Hid (Below w.heap.size w wA):=by rw[←hwA];exact(Below.refl _ _).alloc (Nat.le_refl _) _
 have CA:Hid (CzB q lv cz0 wA):=Bx.via BA.out h
 have FA:Hid (FsR wA wA.heap.size (.slice A hdF.length c) hdF):=(hf.keep fun k hk=>BA.out.block k hk).mono BA.out.size
 have c0:wA.cell? ⟨w.heap.size,0,none⟩=some (.int .i64 1):=by rw[←hwA];simp[go_sem]
 have c1:wA.cell? ⟨w.heap.size,1,none⟩=some (.slice A hdF.length c):=by rw[←hwA];simp[go_sem]
 have hlt:=Bx.lt h
 have HW:=Lib.hid hwA
 have HL:=Lib.hid hl
 clear hwA hf h hl
 go_enter Tryz.func182,Tryz.ntmps182
 go_wp2_with fail
 rw[HW.out]
 clear HW
 refine(scan_any 1 _ hdF _ FA.out (by decide)).mono ?_
 rintro e w1 ⟨g,rfl,hg,hsc,hb1⟩
 have D1:Hid (DzS q lv w g cz0 (scan0 1 hdF) w1):=⟨Bx.via hb1 CA.out,hsc,Nat.le_trans BA.out.size hg,hlt,(Frm.of_below BA.out).trans (Frm.of_below hb1)⟩
 clear hg hsc hb1 CA FA c0 c1
 go_wp2_with fail
 refine(field_any _ g _ D1.out.sc).mono ?_
 rintro e w2 ⟨rfl,hp⟩
 have D2:Hid (DzS q lv w g cz0 hq1 w2):=D1.out.call hp
 clear hp D1
 go_wp2_with fail
 refine(nameS_any 8 hq1 g _ (by decide +kernel) D2.out.sc).mono ?_
 rintro e w3 ⟨rfl,hp⟩
 rw[HV1.out]
 have D3:Hid (DzS q lv w g cz0 hq2 w3):=D2.out.call hp
 clear hp D2
 have k2:=Bx.cell D3.out.cp 2 (u:=.string (sb [])) rfl
 have f2:=Bx.free D3.out.cp 2
 have D4:=Lib.hid (D3.out.put HL.out (by decide +kernel) 2 (.string (sb [87,69,83,84])) {cz0 with nm:=[87,69,83,84]} rfl)
 clear D3
 go_wp2_with fail
 refine(field_any hq2 g _ D4.out.sc).mono ?_
 rintro e w4 ⟨rfl,hp⟩
 rw[HV2.out]
 have D5:Hid (DzS q lv w g {cz0 with nm:=[87,69,83,84]} hq3 w4):=D4.out.call hp
 clear hp D4 k2 f2
 go_wp2_with fail
 refine(parseCycle_26 _).mono ?_
 rintro e w5 ⟨rfl,rfl⟩
 go_wp2_with fail
 refine(failS_any hq3 0 g _ D5.out.sc).mono ?_
 rintro e w5 ⟨rfl,hp⟩
 rw[HV3.out] at hp
 have D6:Hid (DzS q lv w g {cz0 with nm:=[87,69,83,84]} hq3 w5):=D5.out.call hp
 clear hp D5
 have k3:=Bx.cell D6.out.cp 3 (u:=.int .i64 0) rfl
 have f3:=Bx.free D6.out.cp 3
 have D7:=Lib.hid (D6.out.put HL.out (by decide +kernel) 3 (.int .i64 2612) {cz0 with nm:=[87,69,83,84],cy:=2612} rfl)
 clear D6
 go_wp2_with fail
 refine(cycleDays_26 _).mono ?_
 rintro e w6 ⟨rfl,rfl⟩
 have k4:=Bx.cell D7.out.cp 4 (u:=.int .i64 0) rfl
 have f4:=Bx.free D7.out.cp 4
 have k5:=Bx.cell D7.out.cp 5 (u:=.int .i64 0) rfl
 have f5:=Bx.free D7.out.cp 5
 have D8:=Lib.hid (D7.out.put HL.out (by decide +kernel) 4 (.int .i64 9826) {cz0 with nm:=[87,69,83,84],cy:=2612,fr:=9826} rfl)
 have D9:=Lib.hid (D8.out.put HL.out (by decide +kernel) 5 (.int .i64 9854) {cz0 with nm:=[87,69,83,84],cy:=2612,fr:=9826,tu:=9854} rfl)
 clear D7 D8
 go_wp2_with fail
 refine(posS_any hq3 g _ (by decide +kernel) D9.out.sc).mono ?_
 rintro e w7 ⟨rfl,hp⟩
 rw[HV4.out,HV5.out]
 have D10:Hid (DzS q lv w g {cz0 with nm:=[87,69,83,84],cy:=2612,fr:=9826,tu:=9854} hq4 w7):=D9.out.call hp
 clear hp D9 k3 k4 k5 f3 f4 f5
 have k6:=Bx.cell D10.out.cp 6 (u:=.int .i64 0) rfl
 have f6:=Bx.free D10.out.cp 6
 have k7:=Bx.cell D10.out.cp 7 (u:=.int .i64 0) rfl
 have f7:=Bx.free D10.out.cp 7
 have D11:=Lib.hid (D10.out.put HL.out (by decide +kernel) 6 (.int .i64 16560000) {cz0 with nm:=[87,69,83,84],cy:=2612,fr:=9826,tu:=9854,la:=16560000} rfl)
 have D12:Hid (DzS q lv w g czH hq4 _):=D11.out.put HL.out (by decide +kernel) 7 (.int .i64 (-43200000)) czH rfl
 clear D10 D11
 go_wp2_with fail
 refine(scanned_z q hq4 g _ D12.out.sc HV6.out).mono ?_
 rintro e w8 ⟨rfl,hb⟩
 have D13:=Lib.hid (D12.out.then_ hb)
 clear hb D12 k6 k7 f6 f7
 go_wp2
 go_end0
 exact⟨rfl,D13.out.cp,D13.out.fr⟩
def rdU:Value→Option (DataW Unit × List MemPlace)
 | .int .u8 n=>some (.lit (.int .u8 n),[])
 | _=>none
def elmU:Elm Int where
 val c:=.int .u8 c
 dat c:=.lit (.int .u8 c)
 rd:=rdU
 rd_mk c:=rfl
 inv v y h:=by
  unfold rdU at h
  split at h
  ·simp only[Option.some.injEq] at h
   exact⟨_,rfl,h.symm⟩
  ·cases h
 inj a b h:=by
  injection h with h
  injection h with h
section
variable {w:World} {ops:Array Oper} {rest:List Oper} {o:Oper} {a:Act} {Q:Exit→Act→World→Prop}
theorem wpList_insU (hg:o.guard=none) (m x v:Operand) (hop:o.op=Op.insert 242 m x v) (b n:Nat) (mm:List UInt8→Option Int)
  (hm:a.eval m=.map (some b)) (h:MapF elmU w b n mm) (hn:n<maxLen) (r:List UInt8) (l:Int) (hx:a.eval x=.string (sb r)) (hv:a.eval v=.int .u8 l) (hs:r.length≤maxLen)
  (hK:∀w',Hid (MapF elmU w' b (n+1) (setK mm r (some l)))→Hid (w.grownBy w' (some b))→wpList Tryz.prog ops Q rest (a.put o.dst undef) w') :
  wpList Tryz.prog ops Q (o::rest) a w:=by
 refine wpList_insertF w hg m x v _ hop 54 Tryz.underlying242 b n mm hm h hn (sb r) l hx hv hs ?_
 intro w' h1 h2
 rw[bl_sb] at h1
 exact hK w' h1 h2
end
set_option maxRecDepth 100000 in
set_option maxHeartbeats 16000000 in
theorem second_z (w0:World) (q:Nat) (lv:Value) (w:World) (hq:w0.heap.size=q) (hl:LnsR w0 lv [(1,hdF)]) (h:CzB q lv cz0 w) (hbe:Below w0.heap.size w0 w) :
  Calls Tryz.prog 113 #[.pointer (some ⟨q,0,none⟩)] w
   fun e w'=>e=.returned (.tuple #[])∧CzB q lv czH w'∧Frm (· = q) w w':=by
 obtain⟨A,c,rfl,hc,hm⟩:=hl.form
 unfold maxLen at hm
 simp only[List.length_cons,List.length_nil,Nat.zero_add] at hl h hc ⊢
 have HL:=Lib.hid hl
 have H:=Lib.hid h
 have HQ:=Lib.hid hq
 have HBE:=Lib.hid hbe
 have hmm:=@run_makeMap Tryz.prog
 have l0:=Bx.lt h
 have k0:=Bx.cell h 0 (u:=.slice A 1 c) rfl
 clear hl h hq hbe
 have M0:Hid (MapF elmU (w.alloc (.map #[] 0)) w.heap.size 0 (fun _=>none)):=MapF.made elmU w
 have B0:Hid (Below w.heap.size w (w.alloc (.map #[] 0))):=(Below.refl _ _).alloc (Nat.le_refl _) _
 go_enter Tryz.func113,Tryz.ntmps113
 go_wp2_with (refine wpList_insU rfl _ _ _ rfl w.heap.size 0 (fun _=>none) rfl M0.out (by unfold maxLen;omega) [68,69,80,65,82,84,85,82,69] 1 rfl rfl (by unfold maxLen;decide) ?_)
 intro w1 m1 g1
 have B1:Hid (Below w.heap.size w w1):=B0.out.grown g1.out B0.out.size (fun k hk=>by injection hk with hk;omega)
 clear M0 B0 g1
 go_wp2_with (refine wpList_insU rfl _ _ _ rfl w.heap.size 1 _ rfl m1.out (by unfold maxLen;omega) [65,82,82,73,86,65,76] 2 rfl rfl (by unfold maxLen;decide) ?_)
 intro w2 m2 g2
 have B2:Hid (Below w.heap.size w w2):=B1.out.grown g2.out B1.out.size (fun k hk=>by injection hk with hk;omega)
 clear m1 B1 g2
 go_wp2_with (refine wpList_insU rfl _ _ _ rfl w.heap.size 2 _ rfl m2.out (by unfold maxLen;omega) [65,80,80,82,79,65,67,72] 3 rfl rfl (by unfold maxLen;decide) ?_)
 intro w3 m3 g3
 have B3:Hid (Below w.heap.size w w3):=B2.out.grown g3.out B2.out.size (fun k hk=>by injection hk with hk;omega)
 have H3:Hid (CzB q (.slice A 1 c) cz0 w3):=Bx.via B3.out H.out
 clear m2 B2 g3 m3 k0 hmm
 have k0:=Bx.cell H3.out 0 (u:=.slice A 1 c) rfl
 go_wp2
 go_loopw [20] (fun iv wr=>(iv=.int .i64 0∧Hid (wr=w3))∨(iv=.int .i64 1∧Hid (CzB q (.slice A 1 c) czH wr)∧Hid (Frm (· = q) w wr))) (fun iv _=>1-(RowKit.intOf iv).toNat)
 case atStart=>exact .inl ⟨rfl,rfl⟩
 case round =>
  rcases hrel with ⟨rfl,hwr⟩|⟨rfl,hcp,hfr⟩
  ·obtain rfl:wr=w3:=hwr.out
   obtain⟨g,o,c',fv,hA,hg,y0,y1,hfs,hok⟩:=HL.out.at_ (k:=0) (by decide)
   simp only[Value.slice.injEq,true_and] at hA
   obtain⟨rfl,-,rfl⟩:=hA
   simp only[List.getElem_cons_zero,Nat.zero_mul,Nat.add_zero] at y0 y1 hfs
   obtain⟨b,o2,cc,hfv,hb,q0,q1,_⟩:=hfs.at_ (k:=0) (by decide)
   simp only[Nat.zero_mul,Nat.add_zero] at q0
   have hx4:hdF.length=4:=rfl
   rw[hx4] at hfv
   subst hfv
   have BR:Hid (Below w0.heap.size w0 wr):=HBE.out.trans (B3.out.mono HBE.out.size)
   replace q0:wr.cell? ⟨b,o2,none⟩=some (.string ⟨#[68,65,84,65,66,65,83,69]⟩):=(BR.out.cell (p:=⟨b,o2,none⟩) hb).trans q0
   replace y0:=(BR.out.cell (p:=⟨g,o,none⟩) hg).trans y0
   replace y1:=(BR.out.cell (p:=⟨g,o+1,none⟩) hg).trans y1
   have hgw:g<wr.heap.size:=Nat.lt_of_lt_of_le hg BR.out.size
   have hbw:b<wr.heap.size:=Nat.lt_of_lt_of_le hb BR.out.size
   have HFS:=Lib.hid hfs
   have hwl:=Bx.lt H3.out
   clear hfs hok q1 hx4 hwr
   obtain⟨wA,hwA⟩:∃W,wr.alloc (.cells #[.int .i64 1,.slice (some ⟨b,o2,none⟩) 4 cc] 184)=W:=⟨_,rfl⟩
   have BA:Hid (Below wr.heap.size wr wA):=by rw[←hwA];exact(Below.refl _ _).alloc (Nat.le_refl _) _
   have XA:Hid (Bx wr.heap.size #[.int .i64 1,.slice (some ⟨b,o2,none⟩) 4 cc] 184 wA):=by rw[←hwA];exact Bx.last wr _ _
   have CA:Hid (CzB q (.slice (some ⟨g,o,none⟩) 1 c) cz0 wA):=Bx.via BA.out H3.out
   have HWA:=Lib.hid hwA
   clear hwA
   go_upto_region 6 with fail
   rw[HWA.out]
   clear HWA y0 y1 q0
   have u9:=fun pb:BelBy wA=>Bx.cell (Bx.via pb.h CA.out) 9 (u:=.bool false) rfl
   have u10:=fun pb:BelBy wA=>Bx.cell (Bx.via pb.h CA.out) 10 (u:=.bool false) rfl
   have u11:=fun pb:BelBy wA=>Bx.cell (Bx.via pb.h CA.out) 11 (u:=.bool false) rfl
   refine wp_region_quiet_bel (by kernel_rfl) (by kernel_rfl) ?_
   repeat(quiet_step (fail))
   refine wpQuiet_nil ?_
   rintro wz ⟨pw,hwz⟩
   have BZ:Hid (Below wA.heap.size wA wz):=by rw[hwz];exact pw.h
   have CZ:Hid (CzB q (.slice (some ⟨g,o,none⟩) 1 c) cz0 wz):=Bx.via BZ.out CA.out
   have XZ:=Lib.hid (XA.out.via BZ.out)
   have k9:=Bx.cell CZ.out 9 (u:=.bool false) rfl
   have k10:=Bx.cell CZ.out 10 (u:=.bool false) rfl
   have k11:=Bx.cell CZ.out 11 (u:=.bool false) rfl
   have f9:=Bx.free CZ.out 9
   have f10:=Bx.free CZ.out 10
   have f11:=Bx.free CZ.out 11
   have hzl:=Bx.lt CZ.out
   have CO:Hid (CzB q (.slice (some ⟨g,o,none⟩) 1 c) cz0 (((wz.setCell ⟨q,9,none⟩ (.bool false)).setCell ⟨q,10,none⟩ (.bool false)).setCell ⟨q,11,none⟩ (.bool false))) :=
    ((CZ.out.set 9 (.bool false)).set 10 (.bool false)).set 11 (.bool false)
   have XO:Hid (Bx wr.heap.size #[.int .i64 1,.slice (some ⟨b,o2,none⟩) 4 cc] 184 (((wz.setCell ⟨q,9,none⟩ (.bool false)).setCell ⟨q,10,none⟩ (.bool false)).setCell ⟨q,11,none⟩ (.bool false))):=by
    have hne:wr.heap.size≠q:=by omega
    exact(heap_setCell_other _ ⟨q,11,none⟩ _ _ hne).trans ((heap_setCell_other _ ⟨q,10,none⟩ _ _ hne).trans ((heap_setCell_other _ ⟨q,9,none⟩ _ _ hne).trans XZ.out))
   have FO:Hid (Frm (· = q) w (((wz.setCell ⟨q,9,none⟩ (.bool false)).setCell ⟨q,10,none⟩ (.bool false)).setCell ⟨q,11,none⟩ (.bool false))):=by
    refine(((Frm.of_below B3.out).trans (Frm.of_below BA.out)).trans (Frm.of_below BZ.out)).trans ⟨rfl,rfl,rfl,by simp,fun i hi hne => ?_⟩
    exact(heap_setCell_other _ ⟨q,11,none⟩ _ _ hne).trans ((heap_setCell_other _ ⟨q,10,none⟩ _ _ hne).trans (heap_setCell_other _ ⟨q,9,none⟩ _ _ hne))
   clear hwz pw u9 u10 u11 CA XA BA BZ CZ XZ
   go_upto_region 8 with fail
   obtain⟨w7,hw7⟩:∃W,((wz.setCell ⟨q,9,none⟩ (.bool false)).setCell ⟨q,10,none⟩ (.bool false)).setCell ⟨q,11,none⟩ (.bool false)=W:=⟨_,rfl⟩
   rw[hw7] at CO XO FO
   rw[hw7]
   clear hw7 k9 k10 k11 f9 f10 f11
   have x0:=XO.out.cell 0 (u:=.int .i64 1) rfl
   have x1:=XO.out.cell 1 (u:=.slice (some ⟨b,o2,none⟩) 4 cc) rfl
   have hxl:=XO.out.lt
   have F7:Hid (FsR w7 w7.heap.size (.slice (some ⟨b,o2,none⟩) 4 cc) hdF):=by
    have b7:Below w0.heap.size w0 w7:=HBE.out.trans (FO.out.below HBE.out.size (fun k hk=>by rw[hk];exact Nat.le_of_eq HQ.out))
    exact(HFS.out.keep fun k hk=>b7.block k hk).mono b7.size
   go_wp2_with fail
   refine(database_z q _ _ w7 CO.out (fun y e=>by cases e) F7.out).mono ?_
   rintro e w8 ⟨rfl,hc8,hf8⟩
   have C8:=Lib.hid hc8
   have F8:Hid (Frm (· = q) w w8):=FO.out.trans hf8
   clear hc8 hf8 CO FO XO x0 x1 hxl
   go_wp2
   go_roundw
   case rel=>exact .inr ⟨by first|rfl|go_num,C8,F8⟩
   case measure=>simp[RowKit.intOf]
  ·have CP:=Lib.hid hcp.out
   have FR:=Lib.hid hfr.out
   clear hcp hfr
   go_wp2
   go_end0
   exact⟨rfl,CP.out,FR.out⟩
theorem fail_z (q:Nat) (x:Value) (w:World) (fv:Value) :
  Calls Tryz.prog 189 #[.pointer (some ⟨q,0,none⟩),.agg #[x,fv],.int .i64 0] w fun e w'=>e=.returned (.tuple #[])∧Below w.heap.size w w':=by
 go_enter Tryz.func189,Tryz.ntmps189
 go_wp2
 go_end0
 exact⟨rfl,(Below.refl _ _).alloc (Nat.le_refl _) _⟩
theorem hdr26_ok:hdrE ⟨[87,69,83,84],2612,9826,9854,16560000,-43200000⟩=0:=by decide +kernel
set_option maxRecDepth 100000 in
set_option maxHeartbeats 16000000 in
theorem third_z (w0:World) (q:Nat) (lv:Value) (w:World) (hq:w0.heap.size=q) (hl:LnsR w0 lv [(1,hdF)]) (h:CzB q lv czH w) (hbe:Below w0.heap.size w0 w) :
  Calls Tryz.prog 114 #[.pointer (some ⟨q,0,none⟩)] w
   fun e w'=>e=.returned (.tuple #[])∧CzB q lv czH w'∧Below w.heap.size w w':=by
 obtain⟨A,c,rfl,hc,hm⟩:=hl.form
 obtain⟨gl,ol,cl,fv,hA,hgl,y0,y1,hfs,_⟩:=hl.at_ (k:=0) (by simp)
 simp only[Value.slice.injEq,true_and] at hA
 obtain⟨rfl,rfl⟩:=hA
 simp only[List.getElem_cons_zero,Nat.zero_mul,Nat.add_zero] at y0 y1 hfs
 simp only[List.length_cons,List.length_nil,Nat.zero_add] at h hc hl ⊢
 have H:=Lib.hid h
 have hwl:=Bx.lt h
 have HBE:=Lib.hid hbe
 have z0:=fun pb:BelBy w=>(pb.h.cell (p:=⟨gl,ol,none⟩) (Nat.lt_of_lt_of_le hgl hbe.size)).trans ((hbe.cell (p:=⟨gl,ol,none⟩) hgl).trans y0)
 have z1:=fun pb:BelBy w=>(pb.h.cell (p:=⟨gl,ol+1,none⟩) (Nat.lt_of_lt_of_le hgl hbe.size)).trans ((hbe.cell (p:=⟨gl,ol+1,none⟩) hgl).trans y1)
 have u0:=fun pb:BelBy w=>Bx.cell (Bx.via pb.h h) 0 (u:=.slice (some ⟨gl,ol,none⟩) 1 c) rfl
 have u2:=fun pb:BelBy w=>Bx.cell (Bx.via pb.h h) 2 (u:=.string ⟨#[87,69,83,84]⟩) rfl
 have u3:=fun pb:BelBy w=>Bx.cell (Bx.via pb.h h) 3 (u:=.int .i64 2612) rfl
 have u4:=fun pb:BelBy w=>Bx.cell (Bx.via pb.h h) 4 (u:=.int .i64 9826) rfl
 have u5:=fun pb:BelBy w=>Bx.cell (Bx.via pb.h h) 5 (u:=.int .i64 9854) rfl
 have u6:=fun pb:BelBy w=>Bx.cell (Bx.via pb.h h) 6 (u:=.int .i64 16560000) rfl
 have u7:=fun pb:BelBy w=>Bx.cell (Bx.via pb.h h) 7 (u:=.int .i64 (-43200000)) rfl
 have hh:=fun w=>header_any ⟨[87,69,83,84],2612,9826,9854,16560000,-43200000⟩ w (by decide)
 rw[hdr26_ok] at hh
 simp only[hdD] at hh
 replace hh:∀w,Calls Tryz.prog 40 #[.agg #[.string ⟨#[87,69,83,84]⟩,.int .i64 2612,.int .i64 9826,.int .i64 9854,.int .i64 16560000,.int .i64 (-43200000)]] w fun e w'=>e=.returned (.int .i64 0)∧Below w.heap.size w w':=hh
 obtain⟨Af,cf,rfl,hcf,_⟩:=fld_le hfs
 have hx4:hdF.length=4:=rfl
 rw[hx4] at z1 hcf
 unfold maxLen at hm
 clear h hl hfs y0 y1 hx4 hbe hq
 go_enter Tryz.func114,Tryz.ntmps114
 go_wp2_with fail
 refine wp_region_bel_tail 12 (by kernel_rfl) (by kernel_rfl) ?_
 simp only[List.take_succ_cons,List.take_zero,List.drop_succ_cons,List.drop_zero]
 repeat(quiet_step ((go_at_call 40;with_reducible exact Calls.bel_of (hh _))))
 try refine wpQuiet_nil ?_
 rintro wz ⟨pb,rfl⟩
 obtain⟨wa,hba⟩:=pb
 show wpList _ _ _ _ _ wa
 have HA:Hid (CzB q (.slice (some ⟨gl,ol,none⟩) 1 c) czH wa):=Bx.via hba H.out
 have BA:=Lib.hid hba
 clear z0 z1 u0 u2 u3 u4 u5 u6 u7 hh hba
 go_wp2_with fail
 refine(fail_z q _ wa _).mono ?_
 rintro e w1 ⟨rfl,hb1⟩
 have C1:Hid (CzB q (.slice (some ⟨gl,ol,none⟩) 1 c) czH w1):=Bx.via hb1 HA.out
 have B1:=Lib.hid (Below.then_ BA.out hb1)
 have hwl1:=Bx.lt C1.out
 have k8:=Bx.cell C1.out 8 (u:=.slice none 0 0) rfl
 clear hb1 HA BA
 go_wp2_with fail
 go_loopw [2,35] (fun lv2 iv wr=>iv=.int .i64 0∧lv2=.slice none 0 0∧Hid (wr=w1)) (fun _ iv _=>0)
 case atStart=>exact⟨rfl,rfl,rfl⟩
 case round =>
  obtain⟨rfl,rfl,hwr⟩:=hrel
  obtain rfl:wr=w1:=hwr.out
  have hmm:=@run_makeMap Tryz.prog
  clear hwr
  go_wp2_with fail
  refine(indexedG_any (.slice none 0 0) [] wr (Rd.nil wr 7) (fun f h=>by cases h) (fun f h=>by cases h) (by decide)).mono ?_
  rintro e w2 ⟨b1,b2,b3,rfl,hix,hb2,q1,q2,q3⟩
  have B2:=Lib.hid (Below.then_ B1.out hb2)
  have C2:Hid (CzB q (.slice (some ⟨gl,ol,none⟩) 1 c) czH w2):=Bx.via hb2 C1.out
  clear hix hb2 q1 q2 q3
  go_wp2_with fail
  refine(indexedG_any (.slice none 0 0) [] w2 (Rd.nil w2 7) (fun f h=>by cases h) (fun f h=>by cases h) (by decide)).mono ?_
  rintro e w3 ⟨c1,c2,c3,rfl,hjx,hb3,r1,r2,r3⟩
  have B3:=Lib.hid (Below.then_ B2.out hb3)
  have C3:Hid (CzB q (.slice (some ⟨gl,ol,none⟩) 1 c) czH w3):=Bx.via hb3 C2.out
  unfold ixV
  clear hjx hb3 r1 r2 r3 B1 B2 C1 C2
  go_upto_region 10 with fail
  obtain⟨w4,hw4⟩:∃W,((w3.alloc (.cells #[.map (some b1),.map (some b2),.map (some b3)] 93)).alloc (.cells #[.map (some c1),.map (some c2),.map (some c3)] 93)).alloc (.map #[] 0)=W:=⟨_,rfl⟩
  rw[hw4]
  have hb4:Below w3.heap.size w3 w4:=by rw[←hw4];exact(((Below.refl _ _).alloc (Nat.le_refl _) _).alloc (by simp) _).alloc (by simp;omega) _
  have B4:=Lib.hid (Below.then_ B3.out hb4)
  have C4:Hid (CzB q (.slice (some ⟨gl,ol,none⟩) 1 c) czH w4):=Bx.via hb4 C3.out
  have hwl4:=Bx.lt C4.out
  clear hw4 hb4 hmm k8
  have k8:=Bx.cell C4.out 8 (u:=.slice none 0 0) rfl
  go_wp2_with fail
  go_loopw [8,9,57] (fun nfv nav iv wr=>iv=.int .i64 0∧nfv=.int .i64 0∧nav=.int .i64 0∧Hid (wr=w4)) (fun _ _ iv _=>0)
  case atStart=>exact⟨rfl,rfl,rfl,rfl⟩
  case round =>
   obtain⟨rfl,rfl,rfl,hwr⟩:=hrel
   obtain rfl:wr=w4:=hwr.out
   clear hwr
   go_wp2
   go_end0
   exact⟨rfl,C4.out,B4.out⟩
def dbZ:Array Value := #[.string ⟨#[]⟩,.int .i64 0,.int .i64 0,.int .i64 0,.int .i64 0,.int .i64 0,.slice none 0 0,.slice none 0 0,.slice none 0 0]
def dbH (v:Value):Array Value := #[.string ⟨#[87,69,83,84]⟩,.int .i64 2612,.int .i64 9826,.int .i64 9854,.int .i64 16560000,.int .i64 (-43200000),v,.slice none 0 0,.slice none 0 0]
def hdrWs:List (List UInt8):=[[68,65,84,65,66,65,83,69],[87,69,83,84],cyc26,pos46]
def exS:ByteArray:=⟨#[68,65,84,65,66,65,83,69,32,87,69,83,84,32,50,54,49,50,32,78,52,54,48,48,48,48,48,48,87,49,50,48,48,48,48,48,48,48,10]⟩
theorem hdr_ok:WsOk hdrWs:=⟨by decide,by decide +kernel,by decide +kernel⟩
theorem exS_join:bl exS=joinW [hdrWs]:=by decide +kernel
theorem hdr_ln:lnOf (1,colsW 0 hdrWs)=((1,hdF):Ln):=by decide +kernel
theorem exS_recs:(readRecs (bl exS)).map lnOf=(1,hdF)::[]∧readDgs (bl exS)=[]:=by
 have h:=read_joinW (W:=[hdrWs]) (fun ws h=>by simp at h;subst h;exact hdr_ok) (by decide)
 rw[exS_join,h.1]
 exact⟨by show[lnOf (1,colsW 0 hdrWs)]=_;rw[hdr_ln],h.2⟩
set_option maxRecDepth 100000 in
set_option maxHeartbeats 16000000 in
theorem compile_hdr (w:World) (E:Env w) :
  Calls Tryz.prog 39 #[.string exS] w fun e w'=>e=.returned (.tuple #[.agg (dbH (.slice none 0 0)),.slice none 0 0])∧Below w.heap.size w w':=by
 obtain⟨s,hs⟩:∃s,exS=s:=⟨_,rfl⟩
 have hsz:s.size≤maxLen:=by rw[←hs];decide +kernel
 have hr:=exS_recs
 rw[hs] at hr ⊢
 have HRD:=Lib.hid hr.1
 have HDD:=Lib.hid hr.2
 obtain⟨wq,hwq⟩:∃W,w.alloc (.cells dbZ 30)=W:=⟨_,rfl⟩
 have BQ:Hid (Below w.heap.size w wq):=by rw[←hwq];exact(Below.refl _ _).alloc (Nat.le_refl _) _
 have XQ:Hid (Bx w.heap.size dbZ 30 wq):=by rw[←hwq];exact Bx.last w _ _
 have EQ:=E.below BQ.out
 unfold dbZ at hwq
 have HWQ:=Lib.hid hwq
 clear hwq hr hs
 go_enter Tryz.func39,Tryz.ntmps39
 go_wp2_with fail
 rw[HWQ.out]
 clear HWQ
 refine(read_any s _ EQ hsz).mono ?_
 rintro e w1 ⟨v,d,rfl,hv,hdg,hb1⟩
 have HSM:=readRecs_small (bl s)
 have hln:=lns_of hv HSM.1
 rw[HRD.out] at hln
 rw[HDD.out] at hdg
 obtain⟨A,c,rfl,hc,hm⟩:=hln.form
 obtain⟨Ad,cd,rfl,hcd,_⟩:=hdg.1.form
 unfold maxLen at hm
 have HLN:=Lib.hid hln
 have B1:=Lib.hid (Below.then_ BQ.out hb1)
 have X1:=Lib.hid (XQ.out.via hb1)
 simp only[List.length_cons,List.length_nil,Nat.zero_add] at hc HLN ⊢
 clear hv hdg hln hb1 BQ XQ EQ HSM
 go_wp2_with fail
 obtain⟨w2,hw2⟩:∃W,(w1.alloc (.cells #[.slice A 1 c,.slice none 0 0,.string ⟨#[]⟩,.int .i64 0,.int .i64 0,.int .i64 0,.int .i64 0,.int .i64 0,.slice none 0 0,.bool false,.bool false,.bool false] 180)).alloc (.cells #[.func (.func 113) #[.pointer (some ⟨w1.heap.size,0,none⟩)] #[],.func (.func 114) #[.pointer (some ⟨w1.heap.size,0,none⟩)] #[]] 1)=W:=⟨_,rfl⟩
 rw[hw2]
 have B2:Hid (Below w1.heap.size w1 w2):=by rw[←hw2];exact((Below.refl _ _).alloc (Nat.le_refl _) _).alloc (by simp) _
 have hs2:w2.heap.size=w1.heap.size+1+1:=by rw[←hw2,World.size_alloc,World.size_alloc]
 obtain⟨q,hq⟩:∃q,w1.heap.size=q:=⟨_,rfl⟩
 rw[hq] at hw2 hs2
 rw[hq]
 have C2:Hid (CzB q (.slice A 1 c) cz0 w2):=by
  rw[←hw2,←hq];exact(Bx.last w1 _ _).grow _
 have Y2:Hid (Bx (q+1) #[.func (.func 113) #[.pointer (some ⟨q,0,none⟩)] #[],.func (.func 114) #[.pointer (some ⟨q,0,none⟩)] #[]] 1 w2):=by rw[←hw2,←hq];exact Bx.last2 w1 _ _ _
 have HS3:=Lib.hid hs2
 have HQ:=Lib.hid hq
 have hql:w.heap.size<q:=by rw[←hq];exact X1.out.lt
 clear hw2 hs2 hq
 go_loopw [37] (fun iv wr=>(iv=.int .i64 0∧Hid (wr=w2))∨(iv=.int .i64 1∧Hid (CzB q (.slice A 1 c) czH wr∧Frm (· = q) w2 wr))∨(iv=.int .i64 2∧Hid (CzB q (.slice A 1 c) czH wr∧Frm (· = q) w2 wr))) (fun iv _=>2-(RowKit.intOf iv).toNat)
 case atStart=>exact .inl ⟨rfl,rfl⟩
 case round =>
  rcases hrel with ⟨rfl,hw⟩|⟨rfl,hcp⟩|⟨rfl,hcp⟩
  ·obtain rfl:wr=w2:=hw.out
   have y0:=Bx.cell Y2.out 0 rfl
   simp only[List.getElem_toArray,List.getElem_cons_zero] at y0
   have y0l:=Bx.lt Y2.out
   have HSEC:=Lib.hid (second_z w1 q _ wr HQ.out HLN.out C2.out B2.out)
   clear hw
   go_wp2_with fail
   refine HSEC.out.mono ?_
   rintro e w3 ⟨rfl,hc3,hf3⟩
   have k1:=Bx.cell hc3 1 (u:=.slice none 0 0) rfl
   have hl3:=Bx.lt hc3
   have HP:Hid (CzB q (.slice A 1 c) czH w3∧Frm (· = q) wr w3):=⟨hc3,hf3⟩
   clear hc3 hf3 HSEC y0 y0l
   go_wp2
   go_roundw
   case rel=>exact .inr (.inl ⟨by first|rfl|go_num,HP⟩)
   case measure=>simp[RowKit.intOf]
  ·obtain⟨hcp1,hfr1⟩:=hcp.out
   have YR:Hid (Bx (q+1) #[.func (.func 113) #[.pointer (some ⟨q,0,none⟩)] #[],.func (.func 114) #[.pointer (some ⟨q,0,none⟩)] #[]] 1 wr) :=
    (hfr1.block _ Y2.out.lt (by omega)).trans Y2.out
   have y1:=Bx.cell YR.out 1 rfl
   simp only[List.getElem_toArray,List.getElem_cons_succ,List.getElem_cons_zero] at y1
   have y1l:=Bx.lt YR.out
   have hth:=third_z w1 q _ wr HQ.out HLN.out hcp1 (B2.out.trans (hfr1.below B2.out.size (fun k hk=>by rw[hk];exact Nat.le_of_eq HQ.out)))
   have HTH3:=Lib.hid hth
   have HFR1:=Lib.hid hfr1
   clear hth hcp1 hfr1 hcp
   go_wp2_with fail
   refine HTH3.out.mono ?_
   rintro e w3 ⟨rfl,hc3,hb3⟩
   have k1:=Bx.cell hc3 1 (u:=.slice none 0 0) rfl
   have hl3:=Bx.lt hc3
   have HP:Hid (CzB q (.slice A 1 c) czH w3∧Frm (· = q) w2 w3):=⟨hc3,HFR1.out.trans (Frm.of_below hb3)⟩
   clear hc3 hb3 HTH3 y1 y1l YR
   go_wp2
   go_roundw
   case rel=>exact .inr (.inr ⟨by first|rfl|go_num,HP⟩)
   case measure=>simp[RowKit.intOf]
  ·obtain⟨hcp1,hfr1⟩:=hcp.out
   have X3:Hid (Bx w.heap.size dbZ 30 wr):=(hfr1.block _ (by rw[HS3.out];omega) (by omega)).trans (X1.out.via B2.out)
   have B3:Hid (Below w.heap.size w wr):=(B1.out.trans (B2.out.mono (by rw[HQ.out];omega))).trans (hfr1.below (by rw[HS3.out];omega) (fun k hk=>by omega))
   have k2:=Bx.cell hcp1 2 (u:=.string ⟨#[87,69,83,84]⟩) rfl
   have k3:=Bx.cell hcp1 3 (u:=.int .i64 2612) rfl
   have k4:=Bx.cell hcp1 4 (u:=.int .i64 9826) rfl
   have k5:=Bx.cell hcp1 5 (u:=.int .i64 9854) rfl
   have k6:=Bx.cell hcp1 6 (u:=.int .i64 16560000) rfl
   have k7:=Bx.cell hcp1 7 (u:=.int .i64 (-43200000)) rfl
   have k8:=Bx.cell hcp1 8 (u:=.slice none 0 0) rfl
   have hwl1:=Bx.lt hcp1
   obtain⟨q9,hq9⟩:∃q,wr.heap.size=q:=⟨_,rfl⟩
   obtain⟨w9,hw9⟩:∃W,wr.alloc (.cells (dbH (.slice none 0 0)) 30)=W:=⟨_,rfl⟩
   have B9:Hid (Below wr.heap.size wr w9):=by rw[←hw9];exact(Below.refl _ _).alloc (Nat.le_refl _) _
   have X9:Hid (Bx q9 (dbH (.slice none 0 0)) 30 w9):=by rw[←hw9,←hq9];exact Bx.last wr _ _
   have k8':w9.cell? ⟨q,8,none⟩=some (.slice none 0 0):=(B9.out.cell (p:=⟨q,8,none⟩) hwl1).trans k8
   have X39:=Lib.hid (X3.out.via B9.out)
   have HB9:Hid (Below w.heap.size w w9):=Below.then_ B3.out B9.out
   have hq9l:q<w9.heap.size:=Nat.lt_of_lt_of_le hwl1 B9.out.size
   have hq9n:w.heap.size<q9:=by rw[←hq9];omega
   unfold dbH at hw9
   have HW9:=Lib.hid hw9
   have HQ9:=Lib.hid hq9
   clear hcp1 hfr1 hcp hw9 hq9
   go_upto_region 15 with fail
   rw[HW9.out,HQ9.out]
   clear k2 k3 k4 k5 k6 k7 k8 HW9
   go_wp2_with fail
   go_loopw [72] (fun iv wr2=>iv=.int .i64 0∧Hid (wr2=w9)) (fun iv _=>0)
   case atStart=>exact⟨rfl,rfl⟩
   case round =>
    obtain⟨rfl,hw⟩:=hrel
    obtain rfl:wr=w9:=hw.out
    have k6:=X9.out.cell 6 (u:=.slice none 0 0) rfl
    have kq:=Bx.lt X9.out
    clear hw
    go_wp2_with fail
    refine(sortZ_fix _).mono ?_
    rintro e w10 ⟨rfl,rfl⟩
    have n6:=X9.out.cell 6 (u:=.slice none 0 0) rfl
    have nf6:=X9.out.free 6
    obtain⟨w11,hw11⟩:∃W,w10.setCell ⟨q9,6,none⟩ (.slice none 0 0)=W:=⟨_,rfl⟩
    have XS:Hid (Bx q9 (dbH (.slice none 0 0)) 30 w11):=by rw[←hw11];exact X9.out.set 6 _
    have X3S:Hid (Bx w.heap.size dbZ 30 w11):=by rw[←hw11];exact(heap_setCell_other _ ⟨q9,6,none⟩ _ _ (by show w.heap.size≠q9;omega)).trans X39.out
    have HB11:Hid (Below w.heap.size w w11):=by rw[←hw11];exact HB9.out.setCell (by show w.heap.size≤q9;omega) _
    have HW11:=Lib.hid hw11
    clear hw11 k6
    go_upto_region 26 with fail
    rw[HW11.out]
    clear HW11 n6 nf6 kq
    obtain⟨⟨y0,y1,y2,y3,y4,y5,y6,y7,y8⟩,_⟩:=Bx.cells9 XS.out
    have yl:=Bx.lt XS.out
    go_wp2_with fail
    refine(stableZ_air none 0 _ _).mono ?_
    rintro e w12 ⟨rfl,rfl⟩
    go_wp2_with fail
    refine(stableZ_proc none 0 _ _).mono ?_
    rintro e w13 ⟨rfl,rfl⟩
    obtain⟨⟨x0,x1,x2,x3,x4,x5,x6,x7,x8⟩,f0,f1,f2,f3,f4,f5,f6,f7,f8⟩:=Bx.cells9 X3S.out
    have xl:=Bx.lt X3S.out
    obtain⟨w14,hw14⟩:∃W,(((((((((w13.setCell ⟨w.heap.size,0,none⟩ (.string ⟨#[87,69,83,84]⟩)).setCell ⟨w.heap.size,1,none⟩ (.int .i64 2612)).setCell ⟨w.heap.size,2,none⟩ (.int .i64 9826)).setCell ⟨w.heap.size,3,none⟩ (.int .i64 9854)).setCell ⟨w.heap.size,4,none⟩ (.int .i64 16560000)).setCell ⟨w.heap.size,5,none⟩ (.int .i64 (-43200000))).setCell ⟨w.heap.size,6,none⟩ (.slice none 0 0)).setCell ⟨w.heap.size,7,none⟩ (.slice none 0 0)).setCell ⟨w.heap.size,8,none⟩ (.slice none 0 0))=W:=⟨_,rfl⟩
    have X14:Hid (Bx w.heap.size (dbH (.slice none 0 0)) 30 w14):=by rw[←hw14];exact Bx.set9 X3S.out _ _ _ _ _ _ _ _ _
    have HB14:Hid (Below w.heap.size w w14):=by rw[←hw14];exact bel_set9 HB11.out (Nat.le_refl _) _ _ _ _ _ _ _ _ _
    have HW14:=Lib.hid hw14
    clear hw14
    go_wp2
    rw[HW14.out]
    obtain⟨⟨z0,z1,z2,z3,z4,z5,z6,z7,z8⟩,_⟩:=Bx.cells9 X14.out
    refine bodyPost_ret (v:=.tuple #[.agg (dbH (.slice none 0 0)),.slice none 0 0]) (by unfold dbH;simp[results,Tryz.results39,go_sem,z0,z1,z2,z3,z4,z5,z6,z7,z8]) rfl ?_
    exact⟨rfl,HB14.out⟩
end Go.Proofs.YtgmehlgfilpleaaGreatDoor
namespace Go.Proofs.YtgmehlgfilpleaaGreatDoor
open Go.RowKit
set_option linter.unusedVariables false
set_option linter.unusedSimpArgs false
def exDb:DbD:=⟨exHd,[],[],[]⟩
theorem exDb_ok:dbE exDb=0:=by decide +kernel
theorem exDb_img:dbB exDb=exB:=by decide +kernel
theorem exDb_arr:(dbC exDb.hd (.slice none 0 0) (.slice none 0 0) (.slice none 0 0)).toArray=dbH (.slice none 0 0):=by rfl
theorem exDb_mem (w:World):DbV w (.slice none 0 0) (.slice none 0 0) (.slice none 0 0) exDb :=
 ⟨by decide,⟨Rd.nil w 7,fun f h=>by cases h⟩,⟨[],rfl,Rd.nil w 2,fun x h=>by cases h⟩,⟨[],rfl,Rd.nil w 4,fun x h=>by cases h⟩⟩
theorem exDb_sz:SzD exDb:=⟨fun f h=>(by cases h),fun f h=>(by cases h)⟩
theorem checkZ (w:World) (hT:LegT w):Calls Tryz.prog 10 #[.agg (dbH (.slice none 0 0))] w fun e w'=>e=.returned (.int .i64 0)∧Below w.heap.size w w':=by
 have h:=dbCheck_any exDb _ _ _ w hT (exDb_mem w) exDb_sz
 rw[exDb_ok,exDb_arr] at h
 exact h
theorem encodeZ (w:World) (hT:LegT w):Calls Tryz.prog 20 #[.agg (dbH (.slice none 0 0))] w fun e w'=>∃vp,e=.returned (.tuple #[vp,.int .i64 0])∧BsNew (sealL exB) w vp w':=by
 have h:=imEncode_any exDb _ _ _ w hT (exDb_mem w) exDb_sz (fun _=>by rw[exDb_img,exB_len];omega)
 rw[exDb_ok,exDb_arr,exDb_img] at h
 refine h.mono ?_
 rintro e w' (⟨h0,_⟩|⟨_,h1⟩)
 ·exact absurd rfl h0
 ·exact h1
end Go.Proofs.YtgmehlgfilpleaaGreatDoor
