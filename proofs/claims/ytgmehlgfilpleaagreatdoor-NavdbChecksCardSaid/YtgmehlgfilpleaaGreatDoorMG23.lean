/-
  Several texts as one.
-/
import Derived.Test.YtgmehlgfilpleaaGreatDoorMG22
import Derived.Test.YtgmehlgfilpleaaGreatDoorMG13
namespace Go.Proofs.YtgmehlgfilpleaaGreatDoor
open Go.RowKit
set_option linter.unusedVariables false
set_option linter.unusedSimpArgs false
theorem infoEl:(Tryz.prog.info? 187).map (fun i=>(i.zero,i.size,i.bytes))=some (some (.agg #[.int .u8 0,.int .i64 0,.slice none 0 0,.string ⟨#[]⟩,.string ⟨#[]⟩,.int .u8 0,.int .i64 0,.int .i64 0,.int .i64 0,.int .i64 0,.string ⟨#[]⟩,.slice none 0 0,.slice none 0 0,.string ⟨#[]⟩,.string ⟨#[]⟩,.int .u8 0,.slice none 0 0,.slice none 0 0,.slice none 0 0]),19,288):=by kernel_rfl
structure CpW (w0:World) (B:Nat) (lv:Value) (s:Cp) (bv av:Value) (L:List (El × EV)) (w:World):Prop where
 r:CpR w0 B lv s bv av L w
 own:w.ownsRow B 187 19 av s.all.length (elcells L)
theorem CpW.below {w0:World} {B:Nat} {lv:Value} {s:Cp} {bv av:Value} {L:List (El × EV)} {w w':World} (h:CpW w0 B lv s bv av L w) (hb:Below w.heap.size w w'):CpW w0 B lv s bv av L w':=⟨h.r.below hb,own_below h.own hb⟩
theorem CpW.put {w0:World} {B:Nat} {lv:Value} {s:Cp} {bv av:Value} {L:List (El × EV)} {w:World} (h:CpW w0 B lv s bv av L w) (j:Nat) (u:Value) (s':Cp) (hs:cpC lv bv av s'=(cpC lv bv av s).setIfInBounds j u) (hb:s'.bad=s.bad) (ha:s'.all=s.all) :
  CpW w0 B lv s' bv av L (w.setCell ⟨w0.heap.size,j,none⟩ u):=⟨h.r.put j u s' hs hb ha,by rw[ha];exact own_set h.own h.r.lo u⟩
def SB (w0:World) (B:Nat) (k:Nat):Prop:=k=w0.heap.size∨B≤k
theorem SB.of_bad {w0:World} {B:Nat} {lv:Value} {s:Cp} {bv av:Value} {L:List (El × EV)} {w w':World} (h:CpR w0 B lv s bv av L w) (hf:Frm (SBad w0 bv) w w'):Frm (SB w0 B) w w' :=
 hf.mono fun k hk=>hk.elim .inl fun e=>.inr (h.bad.lt k e).1
theorem CpW.push {w0:World} {B:Nat} {lv:Value} {s s':Cp} {bv av v':Value} {L:List (El × EV)} {w wa w3:World} {p:El × EV} (h:CpW w0 B lv s bv av L w) (hba:Below w.heap.size w wa)
  (hown:w3.ownsRow B 187 19 v' (s.all.length+1) (elcells L++elc p)) (hg:wa.grownBy w3 av.ownBlock) (hs:s'={s with all:=s.all++[p.1]}) (hp:ElIn w0 wa p) :
  CpW w0 B lv s' bv v' (L++[p]) (w3.setCell ⟨w0.heap.size,8,none⟩ v')∧Frm (SB w0 B) w (w3.setCell ⟨w0.heap.size,8,none⟩ v'):=by
 have hlt:=h.own.lt
 have l0:=h.r.lt
 have lo:=h.r.lo
 have hsz:=hba.size
 have hA:=h.r.below hba
 have hoth:∀k,k≠w0.heap.size→(w3.setCell ⟨w0.heap.size,8,none⟩ v').heap[k]? = w3.heap[k]? := fun k hk=>heap_setCell_other w3 ⟨w0.heap.size,8,none⟩ k v' (fun e=>hk (by simpa using e))
 have hkeep:∀k,k<wa.heap.size→av.ownBlock≠some k→w3.heap[k]? = wa.heap[k]? := fun k hk hk2=>hg.block k hk (by intro e;exact hk2 e.symm)
 have hn0:av.ownBlock≠some w0.heap.size:=fun e=>by have:=(hlt _ e).1;omega
 have F:Frm (fun k=>k=w0.heap.size∨av.ownBlock=some k) wa (w3.setCell ⟨w0.heap.size,8,none⟩ v') :=
  ⟨hg.os,hg.tape,hg.output,by simpa using hg.size,fun k hk hn=>(hoth k (fun e=>hn (.inl e))).trans (hkeep k hk (fun e=>hn (.inr e)))⟩
 have hty:∀(k:Nat) cur t z,wa.heap[k]? = some (.cells cur t z)→t≠180→t≠187→¬(k=w0.heap.size∨av.ownBlock=some k):=fun k cur t z hh h1 h2 e=>by
  rcases e with e|e
  ·rw[e,hA.bx] at hh
   simp only[Option.some.injEq,Obj.cells.injEq] at hh
   exact h1 hh.2.1.symm
  ·obtain⟨cur',e',z',hh',he'⟩:=own_block (own_below h.own hba) k e
   rw[hh'] at hh
   simp only[Option.some.injEq,Obj.cells.injEq] at hh
   exact h2 (by rw[←hh.2.1,he'])
 have hlow:∀k,(k=w0.heap.size∨av.ownBlock=some k)→w0.heap.size≤k:=fun k hk=>by
  rcases hk with rfl|hk
  ·exact Nat.le_refl _
  ·have:=(hlt _ hk).1;omega
 subst hs
 have hlen:(s.all++[p.1]).length=s.all.length+1:=by simp
 have hown':(w3.setCell ⟨w0.heap.size,8,none⟩ v').ownsRow B 187 19 v' (s.all++[p.1]).length (elcells (L++[p])):=by
  rw[hlen,elcells_snoc];exact own_set hown lo v'
 refine⟨⟨⟨?_,own_frm hA.bad F (fun k cur z hh=>hty k cur _ z hh (by decide) (by decide)),RdT.of_own hown',by rw[List.map_append,h.r.eq];rfl,hA.be.trans (F.below (by omega) hlow),fun q hq => ?_,lo,?_⟩,hown'⟩,?_⟩
 ·exact((hkeep _ (by omega) hn0).trans hA.bx:w3.heap[w0.heap.size]? = _) |> fun e=>heap_setCell_same w3 w0.heap.size 8 _ _ _ e
 ·rw[List.mem_append,List.mem_singleton] at hq
  rcases hq with hq|rfl
  ·exact(hA.el q hq).frm F (fun k cur z hh=>hty k cur _ z hh (by decide) (by decide))
  ·exact hp.frm F (fun k cur z hh=>hty k cur _ z hh (by decide) (by decide))
 ·exact Nat.le_trans hA.hi F.size
 ·refine(Frm.of_below hba).trans (F.mono fun k hk=>hk.elim .inl fun e=>.inr (hlt k e).1)
def lcells (L:List Ln) (F:List Value):List Value:=(L.zip F).flatMap fun p=>[.int .i64 p.1.1,p.2]
theorem lcells_len:∀(L:List Ln) (F:List Value),F.length=L.length→(lcells L F).length=L.length*2
 | [],F,_=>rfl
 | x::L,[],h=>by simp at h
 | x::L,f::F,h=>by
  have:=lcells_len L F (by simpa using h)
  unfold lcells at *
  rw[List.zip_cons_cons,List.flatMap_cons,List.length_append,this,List.length_cons]
  simp;omega
theorem lcells_at:∀(L:List Ln) (F:List Value) (hl:F.length=L.length) (k:Nat) (h:k<L.length),(lcells L F)[k*2]? = some (.int .i64 L[k].1)∧(lcells L F)[k*2+1]? = some (F[k]'(by omega))
 | [],F,_,k,h=>by simp at h
 | x::L,[],hl,k,h=>by simp at hl
 | x::L,f::F,hl,k,h=>by
  have e:lcells (x::L) (f::F)=.int .i64 x.1::f::lcells L F:=rfl
  rw[e]
  cases k with
  | zero=>exact⟨rfl,rfl⟩
  | succ k =>
   have:=lcells_at L F (by simpa using hl) k (by simpa using h)
   rw[show(k+1)*2=k*2+1+1 by omega]
   simpa using this
theorem lns_cells {w:World} {g o c:Nat} {L:List Ln} (h:LnsR w (.slice (some ⟨g,o,none⟩) L.length c) L) :
  ∃F:List Value,F.length=L.length∧(∀k (hk:k<L.length) (h2:k<F.length),FsR w w.heap.size F[k] L[k].2)∧∀j u,(lcells L F)[j]? = some u→w.cell? ⟨g,o+j,none⟩=some u:=by
 obtain⟨A,c',hv,hc,hm,hok,hr⟩:=h
 simp only[Value.slice.injEq,true_and] at hv
 obtain⟨rfl,rfl⟩:=hv
 have key:∀k (hk:k<L.length),∃fv,w.cell? ⟨g,o+k*2,none⟩=some (.int .i64 L[k].1)∧w.cell? ⟨g,o+k*2+1,none⟩=some fv∧FsR w w.heap.size fv L[k].2:=fun k hk=>by
  obtain⟨g',o',hA,hg,hx⟩:=hr (by omega)
  simp only[Option.some.injEq,Addr.mk.injEq,and_true] at hA
  obtain⟨rfl,rfl⟩:=hA
  exact hx k hk
 refine⟨List.ofFn fun k:Fin L.length=>Classical.choose (key k.1 k.2),by simp,fun k hk h2 => ?_,fun j u hu => ?_⟩
 ·rw[List.getElem_ofFn];exact(Classical.choose_spec (key k hk)).2.2
 ·have hj:j<L.length*2:=by
   rw[←lcells_len L (List.ofFn fun k:Fin L.length=>Classical.choose (key k.1 k.2)) (by simp)]
   exact(List.getElem?_eq_some_iff.1 hu).1
  obtain⟨a0,a1⟩:=lcells_at L (List.ofFn fun k:Fin L.length=>Classical.choose (key k.1 k.2)) (by simp) (j/2) (by omega)
  have h2:=Classical.choose_spec (key (j/2) (by omega))
  rw[List.getElem_ofFn] at a1
  rcases Nat.mod_two_eq_zero_or_one j with e|e
  ·have ej:j=j/2*2:=by omega
   rw[ej,a0] at hu
   rw[ej,h2.1];exact hu
  ·have ej:j=j/2*2+1:=by omega
   rw[ej,a1] at hu
   rw[ej,←Nat.add_assoc,h2.2.1];exact hu
theorem lns_own {w:World} {base:Nat} {v:Value} {L:List Ln} {F:List Value} (h:w.ownsRow base 184 2 v L.length (lcells L F)) (hl:F.length=L.length) (hok:∀x∈L,LnOk x) (hf:∀k (hk:k<L.length) (h2:k<F.length),FsR w w.heap.size F[k] L[k].2):LnsR w v L:=by
 obtain⟨_,A,c,rfl,hc,hm,hr⟩:=Rd.of_own h
 refine⟨A,c,rfl,hc,hm,hok,fun h0 => ?_⟩
 obtain⟨g,o,rfl,hg,hx⟩:=hr h0
 refine⟨g,o,rfl,hg,fun k hk=>⟨F[k]'(by omega),?_,?_,hf k hk _⟩⟩
 ·exact hx _ _ (lcells_at L F hl k hk).1
 ·have:=hx _ _ (lcells_at L F hl k hk).2
  rwa [←Nat.add_assoc] at this
def takeEl (x:Ln) (V:List Ln):El:=⟨97,x,fx0,(takeO (x::V)).nm,(takeO (x::V)).pts,V⟩
theorem ptsGo_nm (nm:List UInt8) (l0 c0:Int):∀(r:List Ln) (done:List Pt),(ptsGo nm l0 c0 done r).nm=nm∨(ptsGo nm l0 c0 done r).nm=[]
 | [],done=>by unfold ptsGo;split;exact .inl rfl;exact .inr rfl
 | x::r,done=>by unfold ptsGo;split;exact .inr rfl;exact ptsGo_nm nm l0 c0 r _
theorem takeO_nm {x:Ln} {V:List Ln} (h:LnOk x):(takeO (x::V)).nm.length≤140737488351232:=by
 have e:takeO (x::V)=if (hd2 x).endB then tkBad (hd2 x) else ptsGo (hdNm x) x.1 (fld x.2 0).2 [] V:=rfl
 have hn:(hdNm x).length≤140737488351232:=by
  unfold hdNm Sc.tv nameSV
  split
  ·split
   ·exact LnOk.text (by rw[hd1_fs];exact h.2)
   ·simp
  ·simp
 rw[e]
 split
 ·exact Nat.zero_le _
 ·rcases ptsGo_nm (hdNm x) x.1 (fld x.2 0).2 V [] with e1|e1
  ·rw[e1];exact hn
  ·rw[e1];simp
set_option maxRecDepth 100000 in
set_option maxHeartbeats 8000000 in
theorem ctake_any (w0:World) (B:Nat) (lv:Value) (s:Cp) (bv av:Value) (L:List (El × EV)) (x:Ln) (fv:Value) (g o c:Nat) (V:List Ln) (w:World) (E:Env w0) (h:CpW w0 B lv s bv av L w) (hf:FsR w0 w0.heap.size fv x.2) (h0:0<x.2.length) (hok:LnOk x)
  (hv:LnsR w0 (.slice (some ⟨g,o,none⟩) V.length c) V) (hN:V.length≤1000000) (hn:s.all.length≤1000000) (hgd:(takeO (x::V)).bad=false) :
  Calls Tryz.prog 184 #[.pointer (some ⟨w0.heap.size,0,none⟩),.agg #[.int .i64 x.1,fv],.slice (some ⟨g,o,none⟩) V.length c] w
   fun e w'=>e=.returned (.tuple #[])∧∃av' ev,CpW w0 B lv {s with all:=s.all++[takeEl x V]} bv av' (L++[(takeEl x V,ev)]) w'∧Frm (SB w0 B) w w':=by
 obtain⟨ie,hie,hy0,hy1,hy2⟩:=info_parts infoEl
 obtain⟨il,hil,hz0,hz1,hz2⟩:=info_parts infoLine
 obtain⟨F,hFl,hFf,hFc⟩:=lns_cells hv
 obtain⟨A,cf,rfl,hcf,hmf⟩:=fld_le hf
 obtain⟨Av,c1,hvv,hc,hcm⟩:=hv.form
 simp only[Value.slice.injEq,true_and] at hvv
 obtain⟨rfl,rfl⟩:=hvv
 unfold maxLen at hcm
 obtain⟨fl,hfl⟩:∃f,x.2.length=f:=⟨_,rfl⟩
 obtain⟨xn,hxn⟩:∃n,x.1=n:=⟨_,rfl⟩
 obtain⟨m,hm⟩:∃m,V.length=m:=⟨_,rfl⟩
 obtain⟨fv,hfv⟩:∃v,Value.slice A x.2.length cf=v:=⟨_,rfl⟩
 have hfv2:Value.slice A fl cf=fv:=by rw[←hfl];exact hfv
 have HFS:Hid (FsR w0 w0.heap.size fv x.2):=by rw[←hfv];exact hf
 have HV:=Lib.hid hv
 have HGD:=Lib.hid hgd
 have HOK:=Lib.hid hok
 have H0:=Lib.hid h0
 have H:=Lib.hid h
 have HFL:=Lib.hid hFl
 have HFF:=Lib.hid hFf
 have HM:=Lib.hid hm
 have HXN:=Lib.hid hxn
 have HCL:Hid ((lcells V F).length=m*2):=by unfold Hid;rw[lcells_len V F hFl,hm]
 have HC5:Hid (∀u∈lcells V F,u.oneCell'=true):=by
  intro u hu
  unfold lcells at hu
  obtain⟨p,hp1,hp⟩:=List.mem_flatMap.mp hu
  have hp2:∃A n c,p.2=.slice A n c:=by
   obtain⟨k,hk,he⟩:=List.mem_iff_getElem.1 hp1
   have hk2:k<V.length:=by rw[List.length_zip] at hk;omega
   obtain⟨A',c',hv',_⟩:=hFf k hk2 (by omega)
   rw[List.getElem_zip] at he
   rw[←he];exact⟨_,_,_,hv'⟩
  obtain⟨A',n',c',hp2⟩:=hp2
  rw[hp2] at hp
  simp at hp
  rcases hp with rfl|rfl <;> rfl
 have hlt:=h.r.lt
 rw[hfl,hxn,hm]
 rw[hm] at hc hN
 obtain⟨WB,hWB⟩:∃W,(w.alloc (.cells #[.int .i64 xn,.slice A fl cf] 184)).alloc (.cells #[.int .i64 xn,.slice A fl cf] 184)=W:=⟨_,rfl⟩
 have BB:Hid (Below w.heap.size w WB):=by rw[←hWB];exact((Below.refl _ _).alloc (Nat.le_refl _) _).alloc (by simp) _
 have HLIT:Hid (WB.ownsRow w.heap.size 184 2 (.slice (some ⟨w.heap.size+1,0,none⟩) 1 1) 1 [.int .i64 xn,fv]):=by
  have:=World.ownsRow_lit (base:=w.heap.size) (e:=184) (size:=2) (w.alloc (.cells #[.int .i64 xn,.slice A fl cf] 184)) #[.int .i64 xn,.slice A fl cf] 1 (by simp) (by unfold maxLen;omega) rfl
  rw[World.size_alloc,hWB] at this
  rw[←hfv2]
  exact this
 have XB:Hid (Bx w.heap.size #[.int .i64 xn,.slice A fl cf] 184 WB):=by rw[←hWB];exact(Bx.last w _ _).grow _
 have HX:Hid (∀j u,(lcells V F)[j]? = some u→WB.cell? ((⟨g,o,none⟩:Addr).add j)=some u):=by
  intro j u hu
  have h2:=hFc j u hu
  have h3:=((Below.then_ H.out.r.be BB.out).cell (p:=⟨g,o+j,none⟩) (cell_lt h2)).trans h2
  simp only[Addr.add]
  split
  ·rename_i hj0
   rw[hj0] at h3
   exact h3
  ·exact h3
 have hs1:(w.alloc (.cells #[.int .i64 xn,.slice A fl cf] 184)).heap.size=w.heap.size+1:=World.size_alloc _ _
 have hBs:WB.heap.size=w.heap.size+1+1:=by rw[←hWB,World.size_alloc,hs1]
 have HBs:=Lib.hid hBs
 have HWB:=Lib.hid hWB
 have HFV2:=Lib.hid hfv2
 clear hWB hs1 hBs hfv hfv2 hv hgd hok h0 h hFl hFf hFc hm hxn hf hfl
 go_enter Tryz.func184,Tryz.ntmps184
 have HLIT':=HLIT.out
 have HX':=HX.out
 have HBs':=HBs.out
 rw[←HWB.out] at HLIT' HX' HBs'
 have HLIT2:=Lib.hid HLIT'
 have HX2:=Lib.hid HX'
 have HBs2:=Lib.hid HBs'
 clear HLIT' HX' HBs'
 go_wp2_with (at_builtin;(refine wpList_append_own _ rfl _ _ 174 rfl w.heap.size 184 il (.agg #[.int .i64 0,.slice none 0 0]) 2 32 Tryz.underlying174 hil hz0 hz1 hz2 rfl (by decide) _ _ _ rfl HLIT2.out ⟨g,o,none⟩ m c (lcells V F) rfl HCL.out HX2.out HC5.out ?c3 ?c4 ?c5 ?_))
 case c3=>unfold maxLen;omega
 case c4=>omega
 case c5=>rw[HBs2.out];omega
 intro v' w1 hown' hgrow _
 rw[HWB.out] at hgrow
 obtain⟨A',c',rfl,hc1,hc2⟩:=(Rd.of_own hown').form
 have HB1:Hid (Below w.heap.size w w1):=BB.out.grown hgrow BB.out.size (fun k hk=>by simp[Value.ownBlock] at hk;omega)
 have X1:Hid (Bx w.heap.size #[.int .i64 xn,.slice A fl cf] 184 w1):=(hgrow.block _ XB.out.lt (by simp[Value.ownBlock])).trans XB.out
 have HBE:=Lib.hid (Below.then_ H.out.r.be HB1.out)
 have HL1:Hid (LnsR w1 (.slice A' (1+m) c') (x::V)):=by
  have hx1:=HXN.out
  have hm1:=HM.out
  subst hx1 hm1
  refine lns_own (base:=w.heap.size) (F:=fv::F) ?_ (by rw[List.length_cons,List.length_cons,HFL.out]) (fun y hy => ?_) (fun k hk h2 => ?_)
  ·rw[List.length_cons,Nat.add_comm V.length 1];exact hown'
  ·rcases List.mem_cons.1 hy with rfl|hy
   ·exact HOK.out
   ·obtain⟨_,_,_,_,_,hok,_⟩:=HV.out
    exact hok y hy
  ·cases k with
   | zero=>exact(HFS.out.keep fun i hi=>HBE.out.block i hi).mono HBE.out.size
   | succ k =>
    have hk2:k<V.length:=by simpa using hk
    have:=HFF.out k hk2 (by rw[HFL.out];exact hk2)
    exact(this.keep fun i hi=>HBE.out.block i hi).mono HBE.out.size
 have E1:=E.below HBE.out
 have HLN:Hid ((x::V).length≤4398046511104):=by unfold Hid;rw[List.length_cons,HM.out];omega
 clear hown' hgrow HLIT HLIT2 HX HX2 HBs HBs2 HWB XB BB HC5 HCL
 go_wp2_with fail
 refine(take15_any _ (x::V) _ E1 HL1.out HLN.out).mono ?_
 rintro e w2 ⟨pv,rfl,hpts,hb2⟩
 rw[HGD.out]
 have HPT:=Lib.hid hpts
 obtain⟨Ap,cp,rfl,hcp1,hcp2⟩:=hpts.pts.form
 unfold maxLen at hcp2
 obtain⟨nm,hnm⟩:∃n,(takeO (x::V)).nm=n:=⟨_,rfl⟩
 obtain⟨pn,hpn⟩:∃n,(takeO (x::V)).pts.length=n:=⟨_,rfl⟩
 obtain⟨dl,hdl⟩:∃n,(takeO (x::V)).dl=n:=⟨_,rfl⟩
 obtain⟨dc,hdc⟩:∃n,(takeO (x::V)).dc=n:=⟨_,rfl⟩
 obtain⟨de,hde⟩:∃n,(takeO (x::V)).de=n:=⟨_,rfl⟩
 have HNM:=Lib.hid hnm
 have HPN:=Lib.hid hpn
 rw[hpn] at hcp1
 rw[hnm,hpn,hdl,hdc,hde]
 obtain⟨w3,hw3⟩:∃W,(w2.alloc (.cells #[.string (sb nm),.slice Ap pn cp] 48)).alloc (.cells #[.int .i64 dl,.int .i64 dc,.int .i64 de] 89)=W:=⟨_,rfl⟩
 have B3:Hid (Below w2.heap.size w2 w3):=by rw[←hw3];exact((Below.refl _ _).alloc (Nat.le_refl _) _).alloc (by simp) _
 have A3:Hid (Bx w2.heap.size #[.string (sb nm),.slice Ap pn cp] 48 w3):=by rw[←hw3];exact(Bx.last w2 _ _).grow _
 have X3:Hid (Bx w.heap.size #[.int .i64 xn,.slice A fl cf] 184 w3):=(X1.out.via hb2).via B3.out
 have HB3:=Lib.hid (Below.then_ (Below.then_ HB1.out hb2) B3.out)
 have H3:=Lib.hid (H.out.below HB3.out)
 have P3:Hid (RdT w3 53 4 (.slice Ap (takeO (x::V)).pts.length cp) (takeO (x::V)).pts.length (ptcells (takeO (x::V)).pts)):=HPT.out.1.below B3.out
 have a0:=A3.out.cell 0 (u:=.string (sb nm)) rfl
 have a1:=A3.out.cell 1 (u:=.slice Ap pn cp) rfl
 have c0:=X3.out.cell 0 (u:=.int .i64 xn) rfl
 have c1:=X3.out.cell 1 (u:=.slice A fl cf) rfl
 have al:=A3.out.lt
 have cl:=X3.out.lt
 have kv:w3.cell? ⟨w0.heap.size,8,none⟩=some av:=H3.out.r.bx.cell 8 rfl
 have kf:w3.frozen? ⟨w0.heap.size,8,none⟩=false:=H3.out.r.bx.free 8
 have kl:=H3.out.r.lt
 have hBs:=H3.out.r.hi
 have hBlo:=H3.out.r.lo
 have hown:=H3.out.own
 obtain⟨Av,cv,rfl,hcv1,hcv2⟩:=(Rd.of_own hown).form
 unfold maxLen at hcv2
 have hlt0:=hown.lt
 have HW3:=Lib.hid hw3
 clear hw3 hpts hb2 hnm hpn hdl hdc hde X1 HB1 HL1 HLN E1
 go_upto_region 4 with fail
 rw[HW3.out]
 clear HW3
 have nbw:(Value.slice Av s.all.length cv).ownBlock≠some w0.heap.size:=fun h=>by have:=(hlt0 _ h).1;omega
 have kva:=Lib.hid (fun o=>(((Below.refl w3.heap.size w3).alloc (Nat.le_refl _) o).drew.cell (p:=⟨w0.heap.size,8,none⟩) kl).trans kv)
 have kfa:=Lib.hid (fun o=>(((Below.refl w3.heap.size w3).alloc (Nat.le_refl _) o).drew.frozen (p:=⟨w0.heap.size,8,none⟩) kl).trans kf)
 have ksz:Hid (∀o,w0.heap.size<(w3.alloc o).drew.heap.size):=fun o=>by show w0.heap.size<(w3.alloc o).heap.size;rw[World.size_alloc];omega
 go_region_law (
   (refine step_append_lies _ (by rfl) _ _ _ (by rfl) B 187 ie (.agg #[.int .u8 0,.int .i64 0,.slice none 0 0,.string ⟨#[]⟩,.string ⟨#[]⟩,.int .u8 0,.int .i64 0,.int .i64 0,.int .i64 0,.int .i64 0,.string ⟨#[]⟩,.slice none 0 0,.slice none 0 0,.string ⟨#[]⟩,.string ⟨#[]⟩,.int .u8 0,.slice none 0 0,.slice none 0 0,.slice none 0 0]) 19 288 Tryz.underlying178 hie hy0 hy1 hy2 rfl (by omega) (.slice Av s.all.length cv) s.all.length (elcells L) (by rfl) (by first|exact(hown.alloc _).drew|exact(hown.drew).alloc _) ⟨w3.heap.size,0,none⟩ 1 1 [.int .u8 97,.int .i64 xn,.slice A fl cf,.string ⟨#[]⟩,.string ⟨#[]⟩,.int .u8 0,.int .i64 0,.int .i64 0,.int .i64 0,.int .i64 0,.string (sb nm),.slice Ap pn cp,.slice (some ⟨g,o,none⟩) m c,.string ⟨#[]⟩,.string ⟨#[]⟩,.int .u8 0,.slice none 0 0,.slice none 0 0,.slice none 0 0] (by rfl) (by rfl) (World.news_of_block (cs := #[.int .u8 97,.int .i64 xn,.slice A fl cf,.string ⟨#[]⟩,.string ⟨#[]⟩,.int .u8 0,.int .i64 0,.int .i64 0,.int .i64 0,.int .i64 0,.string (sb nm),.slice Ap pn cp,.slice (some ⟨g,o,none⟩) m c,.string ⟨#[]⟩,.string ⟨#[]⟩,.int .u8 0,.slice none 0 0,.slice none 0 0,.slice none 0 0]) (t:=187) (fr:=(0,0)) (heap_alloc_new w3 _)) (by simp[Value.oneCell']) (by omega) (by unfold maxLen;omega) (by omega) (by simp;omega) (w3.heap.size+1) (by simp) ?_;intro gg cap w4 hown4 hgrow4 hat hlt4;have kv4:w4.cell? ⟨w0.heap.size,8,none⟩=some (.slice Av s.all.length cv):=(hgrow4.cell_far ⟨w0.heap.size,8,none⟩ (ksz.out _) (Ne.symm nbw)).trans (kva.out _);have kf4:w4.frozen? ⟨w0.heap.size,8,none⟩=false:=(hgrow4.frozen_far ⟨w0.heap.size,8,none⟩ (ksz.out _) (Ne.symm nbw)).trans (kfa.out _)))
 all_goals
  have e1:=HXN.out
  have e2:=HM.out
  have e3:=HNM.out
  have e4:=HPN.out
  have e5:=HFV2.out
  subst e1 e2 e3 e4 e5
  have hba:=(HB3.out.alloc HB3.out.size (.cells #[.int .u8 97,.int .i64 x.1,.slice A fl cf,.string ⟨#[]⟩,.string ⟨#[]⟩,.int .u8 0,.int .i64 0,.int .i64 0,.int .i64 0,.int .i64 0,.string (sb (takeO (x::V)).nm),.slice Ap (takeO (x::V)).pts.length cp,.slice (some ⟨g,o,none⟩) V.length c,.string ⟨#[]⟩,.string ⟨#[]⟩,.int .u8 0,.slice none 0 0,.slice none 0 0,.slice none 0 0] 187)).drew
  have hel:ElIn w0 w3 (takeEl x V,⟨.slice A fl cf,.slice Ap (takeO (x::V)).pts.length cp,.slice (some ⟨g,o,none⟩) V.length c⟩):=⟨HFS.out,HV.out,P3.out,H0.out,takeO_nm HOK.out,HPT.out.2,⟨Nat.zero_le _,Nat.zero_le _⟩⟩
  have P:=CpW.push (p:=(takeEl x V,⟨.slice A fl cf,.slice Ap (takeO (x::V)).pts.length cp,.slice (some ⟨g,o,none⟩) V.length c⟩)) H.out hba hown4 hgrow4 rfl (hel.below (((Below.refl w3.heap.size w3).alloc (Nat.le_refl _) _).drew))
  have HP:=Lib.hid P
  clear P hba hel hown4 hgrow4 kv4 kf4
  go_end0
  exact⟨rfl,_,_,HP.out.1,HP.out.2⟩
def thP (all:List Fx):List Pt→List Ln→Cp→Cp
 | q::r,v::vs,s=>thP all r vs (if q.ref∈all.map fxRef then s else s.fail v 6)
 | _,_,s=>s
def thE (nf:Nat) (f:Fx) (bf:List Fx):Int:=if 400<nf then 3 else if fxRef f∈bf.map fxRef then 7 else 0
def thA (na:Nat) (nm:List UInt8) (ns:List (List UInt8)):Int:=if 60<na then 3 else if nm∈ns then 7 else 0
def thGo (all:List Fx) (nf na:Nat) (bf:List Fx) (ns:List (List UInt8)) (s:Cp):List El→Cp
 | []=>s
 | p::r=>if p.kd=102 then thGo all (nf+1) na (bf++[p.fx]) ns (s.fail p.x (thE (nf+1) p.fx bf)) r
  else thGo all nf (na+1) bf (ns++[p.nm]) (thP all p.pts p.vias (s.fail p.x (thA (na+1) p.nm ns))) r
def fixesOf (l:List El):List Fx:=(l.filter fun p=>decide (p.kd=102)).map (·.fx)
theorem fail_all (s:Cp) (x:Ln) (e:Int):(s.fail x e).all=s.all:=by unfold Cp.fail;split <;> rfl
theorem fail_bad (s:Cp) (x:Ln) (e:Int):(s.fail x e).bad.length≤s.bad.length+1:=by unfold Cp.fail;split <;> simp
theorem thGo_at (all:List Fx) (nf na:Nat) (bf:List Fx) (ns:List (List UInt8)) (s:Cp) {l:List El} {k:Nat} (h:k<l.length) :
  thGo all nf na bf ns s (l.drop k)=if l[k].kd=102 then thGo all (nf+1) na (bf++[l[k].fx]) ns (s.fail l[k].x (thE (nf+1) l[k].fx bf)) (l.drop (k+1))
   else thGo all nf (na+1) bf (ns++[l[k].nm]) (thP all l[k].pts l[k].vias (s.fail l[k].x (thA (na+1) l[k].nm ns))) (l.drop (k+1)):=by
 rw[List.drop_eq_getElem_cons h];rfl
def nsM (ns:List (List UInt8)):List UInt8→Option Bool:=fun r=>if r∈ns.map ([65,73,82,87,65,89,32] ++ ·) then some true else none
theorem nsM_nil:nsM []=fun _=>none:=by funext r;simp[nsM]
theorem nsM_snoc (ns:List (List UInt8)) (x:List UInt8):nsM (ns++[x])=setK (nsM ns) ([65,73,82,87,65,89,32]++x) (some true):=by
 funext r
 unfold setK nsM
 by_cases h:r=[65,73,82,87,65,89,32]++x
 ·rw[if_pos h,if_pos (by rw[h];simp)]
 ·rw[if_neg h]
  by_cases h2:r∈ns.map ([65,73,82,87,65,89,32] ++ ·)
  ·rw[if_pos h2,if_pos (by rw[List.map_append,List.mem_append];exact .inl h2)]
  ·rw[if_neg h2,if_neg (by rw[List.map_append,List.mem_append];rintro(h3|h3);exact h2 h3;exact h (by simpa using h3))]
theorem nsM_getD (ns:List (List UInt8)) (x:List UInt8):(nsM ns ([65,73,82,87,65,89,32]++x)).getD false=decide (x∈ns):=by
 unfold nsM
 have e:([65,73,82,87,65,89,32]++x∈ns.map ([65,73,82,87,65,89,32] ++ ·))↔x∈ns:=by
  rw[List.mem_map]
  constructor
  ·rintro⟨y,hy,h⟩;rw[List.append_cancel_left h] at hy;exact hy
  ·intro h;exact⟨x,h,rfl⟩
 by_cases h:x∈ns
 ·rw[if_pos (e.2 h),decide_eq_true h];rfl
 ·rw[if_neg (fun h2=>h (e.1 h2)),decide_eq_false h];rfl
structure ElAt (w:World) (g o:Nat) (p:El × EV):Prop where
 c0:w.cell? ⟨g,o,none⟩=some (.int .u8 (p.1.kd:Int))
 c1:w.cell? ⟨g,o+1,none⟩=some (.int .i64 p.1.x.1)
 c2:w.cell? ⟨g,o+2,none⟩=some p.2.fv
 c3:w.cell? ⟨g,o+3,none⟩=some (.string (sb p.1.fx.id))
 c4:w.cell? ⟨g,o+4,none⟩=some (.string (sb p.1.fx.rg))
 c5:w.cell? ⟨g,o+5,none⟩=some (.int .u8 (p.1.fx.kd:Int))
 c6:w.cell? ⟨g,o+6,none⟩=some (.int .i64 p.1.fx.lat)
 c7:w.cell? ⟨g,o+7,none⟩=some (.int .i64 p.1.fx.lon)
 c8:w.cell? ⟨g,o+8,none⟩=some (.int .i64 p.1.fx.el)
 c9:w.cell? ⟨g,o+9,none⟩=some (.int .i64 p.1.fx.ra)
 c10:w.cell? ⟨g,o+10,none⟩=some (.string (sb p.1.nm))
 c11:w.cell? ⟨g,o+11,none⟩=some p.2.pv
 c12:w.cell? ⟨g,o+12,none⟩=some p.2.vv
 c13:w.cell? ⟨g,o+13,none⟩=some (.string ⟨#[]⟩)
 c14:w.cell? ⟨g,o+14,none⟩=some (.string ⟨#[]⟩)
 c15:w.cell? ⟨g,o+15,none⟩=some (.int .u8 0)
 c16:w.cell? ⟨g,o+16,none⟩=some (.slice none 0 0)
 c17:w.cell? ⟨g,o+17,none⟩=some (.slice none 0 0)
 c18:w.cell? ⟨g,o+18,none⟩=some (.slice none 0 0)
theorem CpR.at_ {w0:World} {B:Nat} {lv:Value} {s:Cp} {bv av:Value} {L:List (El × EV)} {w:World} (h:CpR w0 B lv s bv av L w) {k:Nat} (hk:k<s.all.length) :
  ∃g o c p,av=.slice (some ⟨g,o,none⟩) s.all.length c∧g<w.heap.size∧p∈L∧p.1=s.all[k]∧ElAt w g (o+k*19) p:=by
 have hl:L.length=s.all.length:=by rw[←h.eq,List.length_map]
 have hkL:k<L.length:=by omega
 obtain⟨⟨hln,A,c,hv,hc,hm,hr⟩,_⟩:=h.all
 obtain⟨g,o,rfl,hg,hx⟩:=hr (by omega)
 have key:∀j u,j<19→(elc L[k])[j]? = some u→w.cell? ⟨g,o+k*19+j,none⟩=some u:=fun j u hj hu=>by
  have:=hx (k*19+j) u (by rw[elcells_at L k hkL j hj];exact hu)
  rwa [←Nat.add_assoc] at this
 have he:L[k].1=s.all[k]:=by
  have h1:(L.map (·.1))[k]? = s.all[k]? := by rw[h.eq]
  rw[List.getElem?_map,List.getElem?_eq_getElem hkL,List.getElem?_eq_getElem hk] at h1
  exact Option.some.inj h1
 exact⟨g,o,c,L[k],hv,hg,List.getElem_mem hkL,he,key 0 _ (by omega) rfl,key 1 _ (by omega) rfl,key 2 _ (by omega) rfl,key 3 _ (by omega) rfl,key 4 _ (by omega) rfl,key 5 _ (by omega) rfl,key 6 _ (by omega) rfl,key 7 _ (by omega) rfl,key 8 _ (by omega) rfl,key 9 _ (by omega) rfl,
  key 10 _ (by omega) rfl,key 11 _ (by omega) rfl,key 12 _ (by omega) rfl,key 13 _ (by omega) rfl,key 14 _ (by omega) rfl,key 15 _ (by omega) rfl,key 16 _ (by omega) rfl,key 17 _ (by omega) rfl,key 18 _ (by omega) rfl⟩
def ElBox (w:World) (b:Nat) (p:El × EV):Prop:=Bx b (elc p).toArray 187 w
theorem ElBox.cells {w:World} {b:Nat} {p:El × EV} (h:ElBox w b p):ElAt w b 0 p :=
 ⟨Bx.cell h 0 rfl,Bx.cell h 1 rfl,Bx.cell h 2 rfl,Bx.cell h 3 rfl,Bx.cell h 4 rfl,Bx.cell h 5 rfl,Bx.cell h 6 rfl,Bx.cell h 7 rfl,Bx.cell h 8 rfl,Bx.cell h 9 rfl,Bx.cell h 10 rfl,Bx.cell h 11 rfl,Bx.cell h 12 rfl,Bx.cell h 13 rfl,Bx.cell h 14 rfl,Bx.cell h 15 rfl,Bx.cell h 16 rfl,Bx.cell h 17 rfl,Bx.cell h 18 rfl⟩
theorem CpR.rebase {w0:World} {B B':Nat} {lv:Value} {s:Cp} {av:Value} {L:List (El × EV)} {w:World} (h:CpR w0 B lv s (.slice none 0 0) av L w) (h1:w0.heap.size<B') (h2:B'≤w.heap.size):CpR w0 B' lv s (.slice none 0 0) av L w:=by
 refine⟨h.bx,?_,h.all,h.eq,h.be,h.el,h1,h2⟩
 obtain⟨hl,⟨hv,hn⟩|⟨g,cap,cur,hv,_⟩⟩:=h.bad
 ·exact⟨hl,.inl ⟨hv,hn⟩⟩
 ·cases hv
theorem aggEl (w:World):(isAgg 187).run Tryz.prog w=.ok true w:=by kernel_rfl
theorem sizeEl (w:World):(Go.sizeOf 187).run Tryz.prog w=.ok 19 w:=by kernel_rfl
theorem infoElS:(Tryz.prog.info? 187).map (·.size)=some 19:=by kernel_rfl
structure ElV (p:El × EV):Prop where
 f:∃A c,p.2.fv=.slice A p.1.x.2.length c∧p.1.x.2.length≤c∧c≤9223372036854775807
 ps:∃A c,p.2.pv=.slice A p.1.pts.length c∧p.1.pts.length≤c∧c≤9223372036854775807
 v:∃A c,p.2.vv=.slice A p.1.vias.length c∧p.1.vias.length≤c∧c≤9223372036854775807
theorem ElIn.vals {w0 w:World} {p:El × EV} (h:ElIn w0 w p):ElV p:=by
 refine⟨fld_le h.f,?_,?_⟩
 ·obtain⟨A,c,h1,h2,h3⟩:=(h.ps.1).form
  unfold maxLen at h3
  exact⟨A,c,h1,h2,by omega⟩
 ·obtain⟨A,c,h1,h2,h3⟩:=h.v.form
  unfold maxLen at h3
  exact⟨A,c,h1,h2,by omega⟩
theorem elc_one {p:El × EV} (h:ElV p):∀u∈elc p,u.oneCell'=true:=by
 obtain⟨⟨A,c,h1,_⟩,⟨A2,c2,h2,_⟩,⟨A3,c3,h3,_⟩⟩:=h
 unfold elc
 rw[h1,h2,h3]
 intro u hu
 simp only[List.mem_cons,List.not_mem_nil,or_false] at hu
 rcases hu with rfl|rfl|rfl|rfl|rfl|rfl|rfl|rfl|rfl|rfl|rfl|rfl|rfl|rfl|rfl|rfl|rfl|rfl|rfl <;> rfl
theorem ElAt.all {w:World} {g o:Nat} {p:El × EV} (h:ElAt w g o p):∀j u,(elc p)[j]? = some u→w.cell? ⟨g,o+j,none⟩=some u:=by
 intro j u hu
 unfold elc at hu
 match j,hu with
 | 0,hu=>cases hu;exact h.c0
 | 1,hu=>cases hu;exact h.c1
 | 2,hu=>cases hu;exact h.c2
 | 3,hu=>cases hu;exact h.c3
 | 4,hu=>cases hu;exact h.c4
 | 5,hu=>cases hu;exact h.c5
 | 6,hu=>cases hu;exact h.c6
 | 7,hu=>cases hu;exact h.c7
 | 8,hu=>cases hu;exact h.c8
 | 9,hu=>cases hu;exact h.c9
 | 10,hu=>cases hu;exact h.c10
 | 11,hu=>cases hu;exact h.c11
 | 12,hu=>cases hu;exact h.c12
 | 13,hu=>cases hu;exact h.c13
 | 14,hu=>cases hu;exact h.c14
 | 15,hu=>cases hu;exact h.c15
 | 16,hu=>cases hu;exact h.c16
 | 17,hu=>cases hu;exact h.c17
 | 18,hu=>cases hu;exact h.c18
 | j+19,hu=>simp at hu
structure Th (w0:World) (B:Nat) (lv:Value) (av:Value) (L:List (El × EV)) (w:World) (all:List Fx) (q5 q6 b1 b2 b3 c1 c2 c3 nb:Nat) (sc:Cp) (bv:Value) (bf:List Fx) (ns:List (List UInt8)) (wr:World):Prop where
 cp:CpR w0 B lv sc bv av L wr
 ix:IxR b1 b2 b3 all.length (rfM all) (fun _=>none) (fun _=>none) wr
 jx:IxR c1 c2 c3 bf.length (rfM bf) (fun _=>none) (fun _=>none) wr
 nm:MapF elmB wr nb ns.length (nsM ns)
 x5:Bx q5 #[.map (some b1),.map (some b2),.map (some b3)] 93 wr
 x6:Bx q6 #[.map (some c1),.map (some c2),.map (some c3)] 93 wr
 fr:Frm (SB w0 B) w wr
structure Apart (B b1 b2 b3 c1 c2 c3 nb:Nat):Prop where
 e1:b1≠c1
 e2:b2≠c1
 e3:b3≠c1
 n1:nb≠c1
 m1:b1≠nb
 m2:b2≠nb
 m3:b3≠nb
 k1:c1≠nb
 k2:c2≠nb
 k3:c3≠nb
 lc:B≤c1
 ln:B≤nb
section
variable {w0:World} {B:Nat} {lv:Value} {av:Value} {L:List (El × EV)} {w:World} {all:List Fx} {q5 q6 b1 b2 b3 c1 c2 c3 nb:Nat} {sc:Cp} {bv:Value} {bf:List Fx} {ns:List (List UInt8)} {wr w':World}
theorem Th.below (h:Th w0 B lv av L w all q5 q6 b1 b2 b3 c1 c2 c3 nb sc bv bf ns wr) (hb:Below wr.heap.size wr w'):Th w0 B lv av L w all q5 q6 b1 b2 b3 c1 c2 c3 nb sc bv bf ns w' :=
 ⟨h.cp.below hb,h.ix.below hb,h.jx.below hb,h.nm.below' hb,h.x5.via hb,h.x6.via hb,h.fr.trans (Frm.of_below hb)⟩
theorem Bx.bad {b:Nat} {cs:Array Value} {t:TypeId} (hx:Bx b cs t wr) (h:CpR w0 B lv sc bv av L wr) (hf:Frm (SBad w0 bv) wr w') (h1:t≠180) (h2:t≠89):Bx b cs t w':=(hf.block b hx.lt (SBad.cells h hx h1 h2)).trans hx
theorem Th.fail {sc':Cp} {bv':Value} (h:Th w0 B lv av L w all q5 q6 b1 b2 b3 c1 c2 c3 nb sc bv bf ns wr) (hc:CpR w0 B lv sc' bv' av L w') (hf:Frm (SBad w0 bv) wr w'):Th w0 B lv av L w all q5 q6 b1 b2 b3 c1 c2 c3 nb sc' bv' bf ns w' :=
 ⟨hc,h.ix.frm hf (SBad.mapF h.cp h.ix.r) (SBad.mapF h.cp h.ix.a) (SBad.mapF h.cp h.ix.u),h.jx.frm hf (SBad.mapF h.cp h.jx.r) (SBad.mapF h.cp h.jx.a) (SBad.mapF h.cp h.jx.u),hf.mapF h.nm (SBad.mapF h.cp h.nm),
  h.x5.bad h.cp hf (by decide) (by decide),h.x6.bad h.cp hf (by decide) (by decide),h.fr.trans (SB.of_bad h.cp hf)⟩
theorem map_nocell {b:Nat} {β : Type} {e:Elm β} {n:Nat} {m:List UInt8→Option β} (hm:MapF e wr b n m) {k:Nat} {cs:Array Value} {t:TypeId} {z:Nat × Nat} (hx:wr.heap[k]? = some (.cells cs t z)):k≠b:=by
 obtain⟨D,⟨es,clock,hbk,r⟩,_⟩:=hm
 intro e;rw[e,hbk] at hx;cases hx
theorem CpR.map {β : Type} {e:Elm β} {b n:Nat} {m:List UInt8→Option β} (h:CpR w0 B lv sc bv av L wr) (hm:MapF e wr b n m) (hf:Frm (· = b) wr w') (hb:B≤b):CpR w0 B lv sc bv av L w':=by
 have lo:=h.lo
 exact h.frm hf (by omega) (fun k cur t z hh _=>map_nocell hm hh) (fun k hk=>by omega)
theorem Th.add {f:Fx} (h:Th w0 B lv av L w all q5 q6 b1 b2 b3 c1 c2 c3 nb sc bv bf ns wr) (ap:Apart B b1 b2 b3 c1 c2 c3 nb) (hj:IxR c1 c2 c3 (bf.length+1) (setK (rfM bf) (fxRef f) (some true)) (fun _=>none) (fun _=>none) w') (hf:Frm (· = c1) wr w') :
  Th w0 B lv av L w all q5 q6 b1 b2 b3 c1 c2 c3 nb sc bv (bf++[f]) ns w':=by
 refine⟨h.cp.map h.jx.r hf ap.lc,h.ix.frm hf ap.e1 ap.e2 ap.e3,?_,hf.mapF h.nm ap.n1,(hf.block q5 h.x5.lt (map_nocell h.jx.r h.x5)).trans h.x5,(hf.block q6 h.x6.lt (map_nocell h.jx.r h.x6)).trans h.x6,h.fr.trans (hf.mono fun k hk=>.inr (by have:=ap.lc;omega))⟩
 rw[rfM_snoc,List.length_append];exact hj
theorem Th.name {x:List UInt8} (h:Th w0 B lv av L w all q5 q6 b1 b2 b3 c1 c2 c3 nb sc bv bf ns wr) (ap:Apart B b1 b2 b3 c1 c2 c3 nb) (hm:MapF elmB w' nb (ns.length+1) (setK (nsM ns) ([65,73,82,87,65,89,32]++x) (some true))) (hg:wr.grownBy w' (some nb)) :
  Th w0 B lv av L w all q5 q6 b1 b2 b3 c1 c2 c3 nb sc bv bf (ns++[x]) w':=by
 have hf:Frm (· = nb) wr w':=Frm.grown hg rfl
 refine⟨h.cp.map h.nm hf ap.ln,h.ix.frm hf ap.m1 ap.m2 ap.m3,h.jx.frm hf ap.k1 ap.k2 ap.k3,?_,(hf.block q5 h.x5.lt (map_nocell h.nm h.x5)).trans h.x5,(hf.block q6 h.x6.lt (map_nocell h.nm h.x6)).trans h.x6,h.fr.trans (hf.mono fun k hk=>.inr (by have:=ap.ln;omega))⟩
 rw[nsM_snoc,List.length_append];exact hm
end
theorem thP_all (all:List Fx):∀(l:List Pt) (v:List Ln) (s:Cp),(thP all l v s).all=s.all
 | [],_,s=>rfl
 | q::r,[],s=>rfl
 | q::r,v::vs,s=>by
  unfold thP
  split
  ·exact thP_all all r vs s
  ·rw[thP_all all r vs];exact fail_all _ _ _
theorem thP_at (all:List Fx) (s:Cp) {l:List Pt} {v:List Ln} {k:Nat} (h:k<l.length) (h2:k<v.length):thP all (l.drop k) (v.drop k) s=thP all (l.drop (k+1)) (v.drop (k+1)) (if l[k].ref∈all.map fxRef then s else s.fail v[k] 6):=by
 rw[List.drop_eq_getElem_cons h,List.drop_eq_getElem_cons h2];rfl
theorem fail_hd (s:Cp) (x:Ln) (e:Int):(s.fail x e).la=s.la∧(s.fail x e).lo=s.lo:=by unfold Cp.fail;split <;> exact⟨rfl,rfl⟩
theorem thP_nil (all:List Fx) (v:List Ln) (s:Cp):thP all [] v s=s:=by cases v <;> rfl
theorem key_sb (nm:List UInt8):(⟨#[65,73,82,87,65,89,32]⟩:ByteArray)++sb nm=sb ([65,73,82,87,65,89,32]++nm):=by
 apply bl_inj;rw[bl_append,bl_sb,bl_sb];rfl
end Go.Proofs.YtgmehlgfilpleaaGreatDoor
