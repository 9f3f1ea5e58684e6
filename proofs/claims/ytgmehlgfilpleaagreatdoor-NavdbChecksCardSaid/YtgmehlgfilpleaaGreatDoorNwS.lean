/-
  Contract: the second round of the compiler, at sources of a header and airways without a diagnostic.
-/
import Derived.Test.YtgmehlgfilpleaaGreatDoorMG23
namespace Go.Proofs.YtgmehlgfilpleaaGreatDoor
open Go.RowKit
set_option linter.unusedVariables false
set_option linter.unusedSimpArgs false
def wAir:List UInt8:=[65,73,82,87,65,89]
def wVia:List UInt8:=[86,73,65]
def cp0:Cp:=⟨[],[],0,0,0,0,0,[],false,false,false⟩
def Cp.off (s:Cp):Cp:={s with aw:=false,pr:=false,pt:=false}
def secStep (s:Cp) (x:Ln) (r:List Ln):Cp :=
 if (fld x.2 0).1=wAir then {s.off with all:=s.all++[takeEl x (viasL r)],aw:=true}
 else {s.off with aw:=true}
def secGo (s:Cp):List Ln→Cp
 | []=>s
 | x::r=>secGo (secStep s x r) r
inductive GoodStep (s:Cp) (x:Ln) (r:List Ln):Prop
 | air (h:(fld x.2 0).1=wAir) (h2:(takeO (x::viasL r)).bad=false)
 | via (h:(fld x.2 0).1=wVia) (h2:s.aw=true)
def SecOk (s:Cp):List Ln→Prop
 | []=>True
 | x::r=>GoodStep s x r∧SecOk (secStep s x r) r
theorem sec_at {s:Cp} {L:List Ln} {k:Nat} (hk:k<L.length):secGo s (L.drop k)=secGo (secStep s L[k] (L.drop (k+1))) (L.drop (k+1)):=by rw[List.drop_eq_getElem_cons hk];rfl
theorem secOk_at {s:Cp} {L:List Ln} {k:Nat} (hk:k<L.length) (h:SecOk s (L.drop k)):GoodStep s L[k] (L.drop (k+1))∧SecOk (secStep s L[k] (L.drop (k+1))) (L.drop (k+1)):=by
 rw[List.drop_eq_getElem_cons hk] at h;exact h
theorem step_air {s:Cp} {x:Ln} {r:List Ln} (h:(fld x.2 0).1=wAir):secStep s x r={s.off with all:=s.all++[takeEl x (viasL r)],aw:=true}:=by unfold secStep;rw[h,if_pos rfl]
theorem step_via {s:Cp} {x:Ln} {r:List Ln} (h:(fld x.2 0).1=wVia):secStep s x r={s.off with aw:=true}:=by unfold secStep;rw[h,if_neg (by decide)]
theorem sec_len (s:Cp):∀L,(secGo s L).all.length≤s.all.length+L.length
 | []=>Nat.le_refl _
 | x::r=>by
  have:=sec_len (secStep s x r) r
  have h2:(secStep s x r).all.length≤s.all.length+1:=by
   unfold secStep;split
   ·simp
   ·simp[Cp.off]
  rw[List.length_cons]
  show(secGo (secStep s x r) r).all.length≤_
  omega
def rdU:Value→Option (DataW Unit × List MemPlace)
 | .int .u8 n=>some (.lit (.int .u8 n),[])
 | _=>none
def elmU:Elm Int where
 val c:=.int .u8 c
 dat c:=.lit (.int .u8 c)
 rd:=rdU
 rd_mk c:=rfl
 inv v y h:=by
  unfold rdU at h
  split at h
  ·simp only[Option.some.injEq] at h
   exact⟨_,rfl,h.symm⟩
  ·cases h
 inj a b h:=by
  injection h with h
  injection h with h
section
variable {w:World} {ops:Array Oper} {rest:List Oper} {o:Oper} {a:Act} {Q:Exit→Act→World→Prop}
theorem wpList_insU (hg:o.guard=none) (m x v:Operand) (hop:o.op=Op.insert 242 m x v) (b n:Nat) (mm:List UInt8→Option Int)
  (hm:a.eval m=.map (some b)) (h:MapF elmU w b n mm) (hn:n<maxLen) (r:List UInt8) (l:Int) (hx:a.eval x=.string (sb r)) (hv:a.eval v=.int .u8 l) (hs:r.length≤maxLen)
  (hK:∀w',Hid (MapF elmU w' b (n+1) (setK mm r (some l)))→Hid (w.grownBy w' (some b))→wpList Tryz.prog ops Q rest (a.put o.dst undef) w') :
  wpList Tryz.prog ops Q (o::rest) a w:=by
 refine wpList_insertF w hg m x v _ hop 54 Tryz.underlying242 b n mm hm h hn (sb r) l hx hv hs ?_
 intro w' h1 h2
 rw[bl_sb] at h1
 exact hK w' h1 h2
end
theorem CpW.of_frm {w0:World} {B:Nat} {lv:Value} {s s':Cp} {bv av:Value} {L:List (El × EV)} {w w':World} (h:CpW w0 B lv s bv av L w) (hr:CpR w0 B lv s' bv av L w') (hf:Frm (· = w0.heap.size) w w') (ha:s'.all=s.all):CpW w0 B lv s' bv av L w' :=
 ⟨hr,by
  rw[ha]
  refine own_frm h.own hf (fun k cur z hh e => ?_)
  rw[e,h.r.bx] at hh
  simp only[Option.some.injEq,Obj.cells.injEq] at hh
  exact absurd hh.2.1 (by decide)⟩
set_option maxRecDepth 100000 in
set_option maxHeartbeats 16000000 in
theorem second_any (w0:World) (B:Nat) (lv:Value) (rest:List Ln) (w:World) (E:Env w0) (hl:LnsR w0 lv ((1,hdF)::rest)) (hf:∀x∈rest,0<x.2.length) (hf2:∀x∈rest,x.2.length≤1000000000000) (hN:rest.length≤1000) (h:CpW w0 B lv cp0 (.slice none 0 0) (.slice none 0 0) [] w) (hok:SecOk cp0.head rest) :
  Calls Tryz.prog 113 #[.pointer (some ⟨w0.heap.size,0,none⟩)] w
   fun e w'=>e=.returned (.tuple #[])∧∃av L,CpW w0 B lv (secGo cp0.head rest) (.slice none 0 0) av L w'∧Frm (SB w0 B) w w':=by
 obtain⟨F,hF⟩:∃F,secGo cp0.head rest=F:=⟨_,rfl⟩
 obtain⟨Ls,hLs⟩:∃Ls,((1,hdF):Ln)::rest=Ls:=⟨_,rfl⟩
 have hfL:∀x∈Ls,0<x.2.length:=by
  rw[←hLs];intro x hx
  rcases List.mem_cons.1 hx with rfl|hx
  ·decide
  ·exact hf x hx
 have hfL2:∀x∈Ls,x.2.length≤1000000000000:=by
  rw[←hLs];intro x hx
  rcases List.mem_cons.1 hx with rfl|hx
  ·decide
  ·exact hf2 x hx
 have HFL2:=Lib.hid hfL2
 obtain⟨n,hn⟩:∃n,Ls.length=n:=⟨_,rfl⟩
 have hn1:n≤1001∧1≤n:=by rw[←hn,←hLs,List.length_cons];omega
 have HFS1:Hid (secGo cp0.head (Ls.drop 1)=F∧SecOk cp0.head (Ls.drop 1)∧Ls[0]? = some (1,hdF)):=by rw[←hLs];exact⟨hF,hok,rfl⟩
 rw[hF]
 rw[hLs] at hl
 obtain⟨A,c,rfl,hc,hm⟩:=hl.form
 unfold maxLen at hm
 have HLN:=Lib.hid hn
 have HL:=Lib.hid hl
 have HFL:=Lib.hid hfL
 have H:=Lib.hid h
 have hmm:=@run_makeMap Tryz.prog
 have l0:=h.r.lt
 have k0:=h.r.bx.cell 0 (u:=.slice A Ls.length c) rfl
 rw[hn] at hc k0
 obtain⟨hn2,hn3⟩:=hn1
 have HBK:Hid (SB w0 B w0.heap.size):=.inl rfl
 clear hl hn h hfL hfL2 hf hf2 hF hLs hok hN
 have M0:Hid (MapF elmU (w.alloc (.map #[] 0)) w.heap.size 0 (fun _=>none)):=MapF.made elmU w
 have B0:Hid (Below w.heap.size w (w.alloc (.map #[] 0))):=(Below.refl _ _).alloc (Nat.le_refl _) _
 go_enter Tryz.func113,Tryz.ntmps113
 go_wp2_with (refine wpList_insU rfl _ _ _ rfl w.heap.size 0 (fun _=>none) rfl M0.out (by unfold maxLen;omega) [68,69,80,65,82,84,85,82,69] 1 rfl rfl (by unfold maxLen;decide) ?_)
 intro w1 m1 g1
 have B1:Hid (Below w.heap.size w w1):=B0.out.grown g1.out B0.out.size (fun k hk=>by injection hk with hk;omega)
 clear M0 B0 g1
 go_wp2_with (refine wpList_insU rfl _ _ _ rfl w.heap.size 1 _ rfl m1.out (by unfold maxLen;omega) [65,82,82,73,86,65,76] 2 rfl rfl (by unfold maxLen;decide) ?_)
 intro w2 m2 g2
 have B2:Hid (Below w.heap.size w w2):=B1.out.grown g2.out B1.out.size (fun k hk=>by injection hk with hk;omega)
 clear m1 B1 g2
 go_wp2_with (refine wpList_insU rfl _ _ _ rfl w.heap.size 2 _ rfl m2.out (by unfold maxLen;omega) [65,80,80,82,79,65,67,72] 3 rfl rfl (by unfold maxLen;decide) ?_)
 intro w3 m3 g3
 have B3:Hid (Below w.heap.size w w3):=B2.out.grown g3.out B2.out.size (fun k hk=>by injection hk with hk;omega)
 have H3:=Lib.hid (H.out.below B3.out)
 clear m2 B2 g3 m3 k0 hmm
 have k0:=H3.out.r.bx.cell 0 (u:=.slice A Ls.length c) rfl
 rw[HLN.out] at k0
 go_wp2
 go_loopw [20] (fun iv wr=>∃(k:Nat) (s:Cp) (av:Value) (L:List (El × EV)),k≤n∧iv=.int .i64 (k:Int)∧Hid ((k=0∧s=cp0)∨(0<k∧secGo s (Ls.drop k)=F∧SecOk s (Ls.drop k)))∧Hid (s.all.length≤k)∧Hid (CpW w0 B (.slice A Ls.length c) s (.slice none 0 0) av L wr)∧Hid (Frm (SB w0 B) w wr)) (fun iv _=>n-(intOf iv).toNat)
 case atStart=>exact⟨0,cp0,_,[],Nat.zero_le _,rfl,.inl ⟨rfl,rfl⟩,Nat.le_refl _,H3.out,Frm.of_below B3.out⟩
 case round =>
  obtain⟨k,s,av,L,hk,rfl,hst,hal,hcp,hfr⟩:=hrel
  by_cases hlt:k<n
  ·have hkl:k<Ls.length:=by rw[HLN.out];exact hlt
   obtain⟨g,o,c',fv,hA,hg,y0,y1,hfs,hok⟩:=HL.out.at_ hkl
   simp only[Value.slice.injEq,true_and] at hA
   obtain⟨rfl,rfl⟩:=hA
   have hx0:=HFL.out _ (List.getElem_mem hkl)
   have hx2:=HFL2.out _ (List.getElem_mem hkl)
   have HB:=Lib.hid hcp.out.r.be
   have z0:=(HB.out.cell (p:=⟨g,o+k*2,none⟩) hg).trans y0
   have z1:=(HB.out.cell (p:=⟨g,o+k*2+1,none⟩) hg).trans y1
   obtain⟨x,hx⟩:∃x,Ls[k]=x:=⟨_,rfl⟩
   rw[hx] at z0 hfs hok hx0 hx2
   have HX2:=Lib.hid hx2
   obtain⟨b,o2,cc,hfv,hb,q0,q1,_⟩:=hfs.at_ (k:=0) hx0
   simp only[Nat.zero_mul,Nat.add_zero] at q0
   have q:=(HB.out.cell (p:=⟨b,o2,none⟩) hb).trans q0
   obtain⟨fl,hfl⟩:∃f,x.2.length=f:=⟨_,rfl⟩
   obtain⟨t,ht⟩:∃t,(fld x.2 0).1=t:=⟨_,rfl⟩
   obtain⟨xn,hxn⟩:∃n,x.1=n:=⟨_,rfl⟩
   rw[hfl] at hfv hx0
   rw[ht] at q
   rw[hxn] at z0
   subst hfv
   have HFS:=Lib.hid hfs
   have HOK:=Lib.hid hok
   have HX:=Lib.hid hx
   have HT:=Lib.hid ht
   have HXN:=Lib.hid hxn
   have HFLN:=Lib.hid hfl
   have HWAY:Hid ((k=0∧s=cp0∧x=(1,hdF))∨(0<k∧GoodStep s x (Ls.drop (k+1))∧secGo (secStep s x (Ls.drop (k+1))) (Ls.drop (k+1))=F∧SecOk (secStep s x (Ls.drop (k+1))) (Ls.drop (k+1)))):=by
    rcases hst.out with ⟨h0,h1⟩|⟨h0,h1,h2⟩
    ·left
     refine⟨h0,h1,?_⟩
     have h3:=HFS1.out.2.2
     subst h0
     rw[List.getElem?_eq_getElem hkl,hx] at h3
     exact Option.some.inj h3
    ·right
     have h3:=secOk_at hkl h2
     rw[sec_at hkl] at h1
     rw[hx] at h1 h3
     exact⟨h0,h3.1,h1,h3.2⟩
   obtain⟨bo,e0,eD⟩:∃bo,((k:Int) == 0)=bo∧((sb t).toList == [68,65,84,65,66,65,83,69])=bo:=by
    rcases HWAY.out with ⟨h0,_,h1⟩|⟨h0,h1,_⟩
    ·refine⟨true,by rw[h0];rfl,?_⟩
     rw[←ht,h1,bl_toList,bl_sb];rfl
    ·refine⟨false,by rw[beq_eq_false_iff_ne];omega,?_⟩
     rw[bl_toList,bl_sb,beq_eq_false_iff_ne]
     rcases h1 with ⟨h1,_⟩|⟨h1,_⟩ <;> (rw[ht] at h1;rw[h1];decide)
   have hki:(k:Int)<(n:Int):=by omega
   have hfi:(0:Int)<(fl:Int):=by omega
   have hwl:=hcp.out.r.lt
   have hbw:b<wr.heap.size:=by omega
   clear hfs hok hx ht hxn hfl q0 q1 y0 y1 hst hx2
   obtain⟨wA,hwA⟩:∃W,wr.alloc (.cells #[.int .i64 xn,.slice (some ⟨b,o2,none⟩) fl cc] 184)=W:=⟨_,rfl⟩
   have BA:Hid (Below wr.heap.size wr wA):=by rw[←hwA];exact(Below.refl _ _).alloc (Nat.le_refl _) _
   have XA:Hid (Bx wr.heap.size #[.int .i64 xn,.slice (some ⟨b,o2,none⟩) fl cc] 184 wA):=by rw[←hwA];exact Bx.last wr _ _
   have CA:=Lib.hid (hcp.out.below BA.out)
   have HWA:=Lib.hid hwA
   clear hwA
   go_upto_region 6 with fail
   rw[HWA.out]
   clear HWA z0 z1 q
   have u9:=fun pb:BelBy wA=>(CA.out.r.below pb.h).bx.cell 9 (u:=.bool s.aw) rfl
   have u10:=fun pb:BelBy wA=>(CA.out.r.below pb.h).bx.cell 10 (u:=.bool s.pr) rfl
   have u11:=fun pb:BelBy wA=>(CA.out.r.below pb.h).bx.cell 11 (u:=.bool s.pt) rfl
   refine wp_region_quiet_bel (by kernel_rfl) (by kernel_rfl) ?_
   repeat(quiet_step (fail))
   refine wpQuiet_nil ?_
   rintro wz ⟨pw,hwz⟩
   have BZ:Hid (Below wA.heap.size wA wz):=by rw[hwz];exact pw.h
   have CZ:=Lib.hid (CA.out.below BZ.out)
   have XZ:=Lib.hid (XA.out.via BZ.out)
   have k9:=CZ.out.r.bx.cell 9 (u:=.bool s.aw) rfl
   have k10:=CZ.out.r.bx.cell 10 (u:=.bool s.pr) rfl
   have k11:=CZ.out.r.bx.cell 11 (u:=.bool s.pt) rfl
   have f9:=CZ.out.r.bx.free 9
   have f10:=CZ.out.r.bx.free 10
   have f11:=CZ.out.r.bx.free 11
   have hzl:=CZ.out.r.lt
   have CO:Hid (CpW w0 B (.slice (some ⟨g,o,none⟩) Ls.length c) s.off (.slice none 0 0) av L (((wz.setCell ⟨w0.heap.size,9,none⟩ (.bool false)).setCell ⟨w0.heap.size,10,none⟩ (.bool false)).setCell ⟨w0.heap.size,11,none⟩ (.bool false))) :=
    ((CZ.out.put 9 (.bool false) {s with aw:=false} rfl rfl rfl).put 10 (.bool false) {s with aw:=false,pr:=false} rfl rfl rfl).put 11 (.bool false) s.off rfl rfl rfl
   have XO:Hid (Bx wr.heap.size #[.int .i64 xn,.slice (some ⟨b,o2,none⟩) fl cc] 184 (((wz.setCell ⟨w0.heap.size,9,none⟩ (.bool false)).setCell ⟨w0.heap.size,10,none⟩ (.bool false)).setCell ⟨w0.heap.size,11,none⟩ (.bool false))):=by
    have hne:wr.heap.size≠w0.heap.size:=by omega
    exact(heap_setCell_other _ ⟨w0.heap.size,11,none⟩ _ _ hne).trans ((heap_setCell_other _ ⟨w0.heap.size,10,none⟩ _ _ hne).trans ((heap_setCell_other _ ⟨w0.heap.size,9,none⟩ _ _ hne).trans XZ.out))
   have FO:Hid (Frm (SB w0 B) w (((wz.setCell ⟨w0.heap.size,9,none⟩ (.bool false)).setCell ⟨w0.heap.size,10,none⟩ (.bool false)).setCell ⟨w0.heap.size,11,none⟩ (.bool false))):=by
    refine((hfr.out.trans (Frm.of_below BA.out)).trans (Frm.of_below BZ.out)).trans ⟨rfl,rfl,rfl,by simp,fun i hi hn => ?_⟩
    have hne:i≠w0.heap.size:=fun e=>hn (.inl e)
    exact(heap_setCell_other _ ⟨w0.heap.size,11,none⟩ _ _ hne).trans ((heap_setCell_other _ ⟨w0.heap.size,10,none⟩ _ _ hne).trans (heap_setCell_other _ ⟨w0.heap.size,9,none⟩ _ _ hne))
   clear hwz pw u9 u10 u11 CA XA BA BZ CZ XZ hcp hfr
   go_upto_region 8 with fail
   obtain⟨w7,hw7⟩:∃W,((wz.setCell ⟨w0.heap.size,9,none⟩ (.bool false)).setCell ⟨w0.heap.size,10,none⟩ (.bool false)).setCell ⟨w0.heap.size,11,none⟩ (.bool false)=W:=⟨_,rfl⟩
   rw[hw7] at CO XO FO
   rw[hw7]
   clear hw7 k9 k10 k11 f9 f10 f11
   have x0:=XO.out.cell 0 (u:=.int .i64 xn) rfl
   have x1:=XO.out.cell 1 (u:=.slice (some ⟨b,o2,none⟩) fl cc) rfl
   have hxl:=XO.out.lt
   rcases HWAY.out with ⟨h0,hs0,hxx⟩|⟨hpos,hgs,hgo,hso⟩
   ·have hbo:bo=true:=by rw[←e0,h0];rfl
    have hx1:xn=1:=by rw[←HXN.out,hxx]
    have hf4:fl=4:=by rw[←HFLN.out,hxx];rfl
    subst hbo hx1 hf4 hs0
    have HFD:Hid (FsR w0 w0.heap.size (.slice (some ⟨b,o2,none⟩) 4 cc) hdF):=by have:=HFS.out;rw[hxx] at this;exact this
    have hal0:Hid ((cp0:Cp).all.length≤k+1):=Nat.zero_le _
    have hk1:k+1≤n:=hlt
    have HST:Hid ((k+1=0∧cp0.head=cp0)∨(0<k+1∧secGo cp0.head (Ls.drop (k+1))=F∧SecOk cp0.head (Ls.drop (k+1)))):=.inr ⟨by omega,by rw[h0];exact HFS1.out.1,by rw[h0];exact HFS1.out.2.1⟩
    clear h0 hxx HWAY
    go_wp2_with fail
    refine(database_ex w0 B _ cp0.off _ av L _ w7 CO.out.r (fun y e=>by cases e) HFD.out).mono ?_
    rintro e w8 ⟨rfl,hc8,hf8⟩
    have C8:Hid (CpW w0 B (.slice (some ⟨g,o,none⟩) Ls.length c) cp0.head (.slice none 0 0) av L w8):=CO.out.of_frm hc8 hf8 rfl
    have F8:Hid (Frm (SB w0 B) w w8):=FO.out.trans (hf8.mono fun i hi=>.inl hi)
    clear hc8 hf8 CO FO XO x0 x1 hxl
    go_wp2
    go_roundw
    case rel=>exact⟨k+1,cp0.head,av,L,hk1,by go_num,HST,hal0,C8,F8⟩
    case measure=>simp[intOf];omega
   ·have hbo:bo=false:=by rw[←e0,beq_eq_false_iff_ne];omega
    subst hbo
    have HGO:=Lib.hid hgo
    have HSO:=Lib.hid hso
    have E7:=E.below CO.out.r.be
    have FS7:Hid (FsR w7 w7.heap.size (.slice (some ⟨b,o2,none⟩) fl cc) x.2):=(HFS.out.keep fun i hi=>CO.out.r.be.block i hi).mono CO.out.r.be.size
    rcases hgs with ⟨h1,h2⟩|⟨h1,h2⟩
    ·have HSTP:Hid (secStep s x (Ls.drop (k+1))={s.off with all:=s.all++[takeEl x (viasL (Ls.drop (k+1)))],aw:=true}):=step_air h1
     rw[HT.out] at h1
     have eqs:∀l:List UInt8,((sb t).toList == l)=decide (t=l):=fun l=>by rw[bl_toList,bl_sb,Bool.eq_iff_iff,beq_iff_eq,decide_eq_true_iff]
     have n1:((sb t).toList == [87,65,89,80,79,73,78,84])=false:=by rw[eqs,h1];rfl
     have n2:((sb t).toList == [86,79,82])=false:=by rw[eqs,h1];rfl
     have n3:((sb t).toList == [68,77,69])=false:=by rw[eqs,h1];rfl
     have n4:((sb t).toList == [78,68,66])=false:=by rw[eqs,h1];rfl
     have n5:((sb t).toList == [65,73,82,80,79,82,84])=false:=by rw[eqs,h1];rfl
     have n6:((sb t).toList == [82,85,78,87,65,89])=false:=by rw[eqs,h1];rfl
     have n7:((sb t).toList == [65,73,82,87,65,89])=true:=by rw[eqs,h1];rfl
     have HST:Hid ((k+1=0∧({s.off with all:=s.all++[takeEl x (viasL (Ls.drop (k+1)))],aw:=true}:Cp)=cp0)∨(0<k+1∧secGo ({s.off with all:=s.all++[takeEl x (viasL (Ls.drop (k+1)))],aw:=true}:Cp) (Ls.drop (k+1))=F∧SecOk ({s.off with all:=s.all++[takeEl x (viasL (Ls.drop (k+1)))],aw:=true}:Cp) (Ls.drop (k+1)))):=.inr ⟨by omega,by rw[←HSTP.out];exact HGO.out,by rw[←HSTP.out];exact HSO.out⟩
     have hal1:Hid (({s.off with all:=s.all++[takeEl x (viasL (Ls.drop (k+1)))],aw:=true}:Cp).all.length≤k+1):=by unfold Hid;rw[List.length_append];exact Nat.succ_le_succ hal.out
     have hk1:k+1≤n:=hlt
     have han:s.off.all.length≤1000000:=by have:=hal.out;show s.all.length≤_;omega
     have k9:=CO.out.r.bx.cell 9 (u:=.bool false) rfl
     have f9:=CO.out.r.bx.free 9
     obtain⟨w8,hw8⟩:∃W,w7.setCell ⟨w0.heap.size,9,none⟩ (.bool true)=W:=⟨_,rfl⟩
     have C8:Hid (CpW w0 B (.slice (some ⟨g,o,none⟩) Ls.length c) {s.off with aw:=true} (.slice none 0 0) av L w8):=by rw[←hw8];exact CO.out.put 9 (.bool true) {s.off with aw:=true} rfl rfl rfl
     have F8:Hid (Frm (SB w0 B) w w8):=by rw[←hw8];exact FO.out.trans ⟨rfl,rfl,rfl,by simp,fun i hi hn=>heap_setCell_other _ ⟨w0.heap.size,9,none⟩ _ _ (fun e=>hn (.inl e))⟩
     have X8:Hid (Bx wr.heap.size #[.int .i64 xn,.slice (some ⟨b,o2,none⟩) fl cc] 184 w8):=by
      have hne:wr.heap.size≠w0.heap.size:=by omega
      rw[←hw8];exact(heap_setCell_other _ ⟨w0.heap.size,9,none⟩ _ _ hne).trans XO.out
     have HV:=Lib.hid (lns_sub HL.out k hkl)
     obtain⟨V,hV⟩:∃V,viasL (Ls.drop (k+1))=V:=⟨_,rfl⟩
     have hVl:V.length≤1000000:=by rw[←hV];have:=viasL_len (Ls.drop (k+1));rw[List.length_drop,HLN.out] at this;omega
     rw[hV] at HV HST hal1 h2
     have hva:=fun pb:BelBy w8=>(vias_any w0 B g o c Ls _ _ av L k pb.x (C8.out.r.below pb.h) HL.out hkl (by rw[HLN.out];omega) HFL.out).mono (R':=fun e w'=>e=.returned (viaV g o c k (viasL (Ls.drop (k+1))).length)∧Below pb.x.heap.size pb.x w') (fun e w' h=>⟨h.1,by rw[←h.2];exact Below.refl _ _⟩)
     rw[hV] at hva
     obtain⟨ov,hov⟩:∃ov,viaV g o c k V.length=.slice (some ⟨g,ov,none⟩) V.length (c-(k+1)):=by
      unfold viaV;split
      ·exact⟨_,rfl⟩
      ·exact⟨_,rfl⟩
     rw[hov] at hva HV
     have HTB:=Lib.hid h2
     have HW8:=Lib.hid hw8
     clear eqs h1 h2 HWAY hgo hso hw8 hV hov CO FO XO x0 x1 E7 FS7 hxl
     go_upto_region 27 with fail
     rw[HW8.out]
     clear HW8 k9 f9
     have v0:=fun pb:BelBy w8=>(X8.out.via pb.h).cell 0 (u:=.int .i64 xn) rfl
     have v1:=fun pb:BelBy w8=>(X8.out.via pb.h).cell 1 (u:=.slice (some ⟨b,o2,none⟩) fl cc) rfl
     refine wp_region_bel_tail 5 (by kernel_rfl) (by kernel_rfl) ?_
     simp only[List.take_succ_cons,List.take_zero,List.drop_succ_cons,List.drop_zero]
     repeat(quiet_step ((go_at_call 185;with_reducible exact Calls.bel_of (hva _))))
     try refine wpQuiet_nil ?_
     rintro wy ⟨pb,rfl⟩
     obtain⟨wb,hbb⟩:=pb
     show wpList _ _ _ _ _ wb
     have C9:=Lib.hid (C8.out.below hbb)
     have F9:=Lib.hid (F8.out.trans (Frm.of_below hbb))
     have hct:=ctake_any w0 B _ _ _ av L x _ g ov _ V wb E C9.out HFS.out (by rw[HFLN.out];exact hx0) HOK.out HV.out hVl han HTB.out
     rw[HXN.out] at hct
     have HCT:=Lib.hid hct
     clear v0 v1 hva hbb C8 F8 hct
     go_wp2_with fail
     refine HCT.out.mono ?_
     rintro e w10 ⟨rfl,av',ev,hc10,hf10⟩
     have HP:=Lib.hid hc10
     have F10:=Lib.hid (F9.out.trans hf10)
     clear hc10 hf10 HCT C9 F9
     go_wp2
     go_roundw
     case rel=>exact⟨k+1,_,_,_,hk1,by go_num,HST,hal1,HP,F10⟩
     case measure=>simp[intOf];omega
    ·have HSTP:Hid (secStep s x (Ls.drop (k+1))={s.off with aw:=true}):=step_via h1
     rw[HT.out] at h1
     have eqs:∀l:List UInt8,((sb t).toList == l)=decide (t=l):=fun l=>by rw[bl_toList,bl_sb,Bool.eq_iff_iff,beq_iff_eq,decide_eq_true_iff]
     have n1:((sb t).toList == [87,65,89,80,79,73,78,84])=false:=by rw[eqs,h1];rfl
     have n2:((sb t).toList == [86,79,82])=false:=by rw[eqs,h1];rfl
     have n3:((sb t).toList == [68,77,69])=false:=by rw[eqs,h1];rfl
     have n4:((sb t).toList == [78,68,66])=false:=by rw[eqs,h1];rfl
     have n5:((sb t).toList == [65,73,82,80,79,82,84])=false:=by rw[eqs,h1];rfl
     have n6:((sb t).toList == [82,85,78,87,65,89])=false:=by rw[eqs,h1];rfl
     have n7:((sb t).toList == [65,73,82,87,65,89])=false:=by rw[eqs,h1];rfl
     have n8:((sb t).toList == [86,73,65])=true:=by rw[eqs,h1];rfl
     have k9:=CO.out.r.bx.cell 9 (u:=.bool false) rfl
     have f9:=CO.out.r.bx.free 9
     have hk1:k+1≤n:=hlt
     have C8:Hid (CpW w0 B (.slice (some ⟨g,o,none⟩) Ls.length c) {s.off with aw:=true} (.slice none 0 0) av L (w7.setCell ⟨w0.heap.size,9,none⟩ (.bool true))):=CO.out.put 9 (.bool true) {s.off with aw:=true} rfl rfl rfl
     have F8:Hid (Frm (SB w0 B) w (w7.setCell ⟨w0.heap.size,9,none⟩ (.bool true))):=FO.out.trans ⟨rfl,rfl,rfl,by simp,fun i hi hn=>heap_setCell_other _ ⟨w0.heap.size,9,none⟩ _ _ (fun e=>hn (.inl e))⟩
     have HST:Hid ((k+1=0∧({s.off with aw:=true}:Cp)=cp0)∨(0<k+1∧secGo ({s.off with aw:=true}:Cp) (Ls.drop (k+1))=F∧SecOk ({s.off with aw:=true}:Cp) (Ls.drop (k+1)))):=.inr ⟨by omega,by rw[←HSTP.out];exact HGO.out,by rw[←HSTP.out];exact HSO.out⟩
     have hal1:Hid (({s.off with aw:=true}:Cp).all.length≤k+1):=Nat.le_succ_of_le hal.out
     have haw:s.aw=true:=h2
     clear eqs h1 h2 HWAY CO FO XO x0 x1 FS7 E7 hgo hso
     go_wp2
     go_roundw
     case rel=>exact⟨k+1,_,av,L,hk1,by go_num,HST,hal1,C8,F8⟩
     case measure=>simp[intOf];omega
  ·have hkn:k=n:=by omega
   subst hkn
   have HFIN:Hid (s=F):=by
    rcases hst.out with ⟨h0,_⟩|⟨_,h1,_⟩
    ·omega
    ·rw[List.drop_of_length_le (by rw[HLN.out];exact Nat.le_refl _)] at h1;exact h1
   go_wp2
   go_end0
   have hs:=HFIN.out
   subst hs
   exact⟨rfl,_,_,hcp.out,hfr.out⟩
end Go.Proofs.YtgmehlgfilpleaaGreatDoor
