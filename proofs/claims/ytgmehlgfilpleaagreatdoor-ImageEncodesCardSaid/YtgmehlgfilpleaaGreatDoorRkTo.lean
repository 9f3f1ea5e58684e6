/-
  Contracts: the reference's point of a position.
-/
import Derived.Test.YtgmehlgfilpleaaGreatDoorMG21
import Derived.Test.YtgmehlgfilpleaaGreatDoorMG18
import Derived.Test.YtgmehlgfilpleaaGreatDoorMG26
import Derived.Deep.DeepCutAuto
namespace Go.Proofs.YtgmehlgfilpleaaGreatDoor
open Go.RowKit
set_option linter.unusedVariables false
set_option linter.unusedSimpArgs false
theorem rdZ_mdr (a b:Int) (C:Nat) (hC:0<C):rdZ (a*b) C=mdrZ a b (C:Int):=by
 have hm:((a*b).natAbs%C)<C:=Nat.mod_lt _ hC
 have hd:=Nat.div_add_mod (a*b).natAbs C
 rw[Nat.mul_comm] at hd
 unfold rdZ
 obtain⟨q,hq⟩:∃q,(a*b).natAbs/C=q:=⟨_,rfl⟩
 obtain⟨r,hr⟩:∃r,(a*b).natAbs%C=r:=⟨_,rfl⟩
 rw[hq,hr] at hd
 rw[hr] at hm
 rw[hq,hr]
 have hd2:((q*C:Nat):Int)=(q:Int)*(C:Int):=by push_cast;rfl
 by_cases h0:a*b<0
 ·rw[if_pos h0,mdr_neg (q:=q) (r:=r) (by omega) (by omega) (by omega)]
  by_cases h1:C<2*r
  ·rw[if_pos h1,if_pos (by omega)]
  ·rw[if_neg h1,if_neg (by omega)]
 ·rw[if_neg h0,mdr_pos (q:=q) (r:=r) (by omega) (by omega) (by omega) (by omega)]
  by_cases h1:C≤2*r
  ·rw[if_pos h1,if_pos (by omega)]
  ·rw[if_neg h1,if_neg (by omega)]
set_option maxHeartbeats 1000000 in
theorem rround_mdr (b:Int) (C:Nat) (w:World) (h1 : -1700000000≤b) (h2:b≤1700000000) (hC:0<C) (hC2:C≤1700000000) :
  Calls Tryz.prog 133 #[.int .i64 (20626481*b),.int .i64 (C:Int)] w fun e w'=>e=.returned (.tuple #[.int .i64 (mdrZ 20626481 b (C:Int)),.int .i64 0])∧Below w.heap.size w w':=by
 have rq:=fun w=>rquotient_any (20626481*b) C w (by omega) (by omega) hC (by omega)
 rw[rdZ_mdr _ _ _ hC] at rq
 obtain⟨Z,hZ⟩:∃Z,mdrZ 20626481 b (C:Int)=Z:=⟨_,rfl⟩
 rw[hZ] at rq
 rw[hZ]
 obtain⟨p,hp⟩:∃p,20626481*b=p:=⟨_,rfl⟩
 rw[hp] at rq
 rw[hp]
 clear hZ hp
 go_enter Tryz.func133,Tryz.ntmps133
 go_wp2_with fail
 refine(rq _).mono ?_
 rintro e w1 ⟨rfl,rfl⟩
 go_wp2
 go_ret2
 exact⟨rfl,Below.refl _ _⟩
set_option maxRecDepth 100000 in
set_option maxHeartbeats 8000000 in
theorem rslopes_any (la lo:Int) (w:World) (h:vldB la lo=true) :
  Calls Tryz.prog 206 #[.agg #[.int .i64 la,.int .i64 lo]] w fun e w'=>e=.returned (.tuple #[.int .i64 (rnd (sinZ la*cosZ lo)),.int .i64 (rnd (sinZ la*sinZ lo))])∧Below w.heap.size w w':=by
 have hb:=vld_bd h
 have p1:=prod_bd _ _ (sinZ_bd la) (cosZ_bd lo)
 have p2:=prod_bd _ _ (sinZ_bd la) (sinZ_bd lo)
 have t1:=fun w=>rtSin_any la w (by omega) (by omega)
 have t3:=fun w=>rtSin_any lo w (by omega) (by omega)
 have t4:=fun w=>rtCos_any lo w (by omega) (by omega)
 have r1:=fun w=>rround_any (sinZ la*cosZ lo) w (by omega) (by omega)
 have r2:=fun w=>rround_any (sinZ la*sinZ lo) w (by omega) (by omega)
 have hw1:IntKind.i64.wrap (sinZ la*cosZ lo)=sinZ la*cosZ lo:=by rw[IntKind.wrap_i64];omega
 have hw2:IntKind.i64.wrap (sinZ la*sinZ lo)=sinZ la*sinZ lo:=by rw[IntKind.wrap_i64];omega
 obtain⟨n1,hn1⟩:∃c,rnd (sinZ la*cosZ lo)=c:=⟨_,rfl⟩
 obtain⟨n2,hn2⟩:∃c,rnd (sinZ la*sinZ lo)=c:=⟨_,rfl⟩
 rw[hn1] at r1
 rw[hn2] at r2
 rw[hn1,hn2]
 obtain⟨co,hco⟩:∃c,cosZ lo=c:=⟨_,rfl⟩
 obtain⟨sl,hsl⟩:∃c,sinZ la=c:=⟨_,rfl⟩
 obtain⟨so,hso⟩:∃c,sinZ lo=c:=⟨_,rfl⟩
 rw[hsl,hco] at p1 r1 hw1
 rw[hsl,hso] at p2 r2 hw2
 rw[hsl] at t1
 rw[hso] at t3
 rw[hco] at t4
 clear hco hsl hso h hb hn1 hn2
 obtain⟨w0,hw0⟩:∃W,w.alloc (.cells #[.int .i64 la,.int .i64 lo] 23)=W:=⟨_,rfl⟩
 have B0:Hid (Below w.heap.size w w0):=by rw[←hw0];exact(Below.refl _ _).alloc (Nat.le_refl _) _
 have c0:w0.cell? ⟨w.heap.size,0,none⟩=some (.int .i64 la):=by rw[←hw0];simp[go_sem]
 have c1:w0.cell? ⟨w.heap.size,1,none⟩=some (.int .i64 lo):=by rw[←hw0];simp[go_sem]
 go_enter Tryz.func206,Tryz.ntmps206
 go_wp2_with fail
 try rw[hw0]
 clear hw0
 refine(t1 _).mono ?_
 rintro e w1 ⟨rfl,rfl⟩
 go_wp2_with fail
 go_quiet (first|(go_at_call 209;exact Calls.quiet_of_same ((t3 _).mono fun e w' ⟨h1,h2⟩=>⟨h1,h2.symm⟩))|(go_at_call 208;exact Calls.quiet_of_same ((t4 _).mono fun e w' ⟨h1,h2⟩=>⟨h1,h2.symm⟩))|(go_at_call 207;first|exact Calls.quiet_of_same ((r1 _).mono fun e w' ⟨h1,h2⟩=>⟨h1,h2.symm⟩)|exact Calls.quiet_of_same ((r2 _).mono fun e w' ⟨h1,h2⟩=>⟨h1,h2.symm⟩)))
 have B1:=Lib.hid (below_drewN' B0.out nq)
 go_wp2
 go_ret2
 exact⟨rfl,B1.out⟩
structure LcS (b bu bv:Nat) (la lo:Int) (u v:V3) (w wr:World):Prop where
 p:Bx b #[.int .i64 la,.int .i64 lo] 23 wr
 r:Bx (b+1+1) #[.int .i64 0,.int .i64 0,.int .i64 0] 106 wr
 us:Bx bu #[.int .i64 u.x,.int .i64 u.y,.int .i64 u.z] 106 wr
 vs:Bx bv #[.int .i64 v.x,.int .i64 v.y,.int .i64 v.z] 106 wr
 be:Below w.heap.size w wr
theorem LcS.below {b bu bv:Nat} {la lo:Int} {u v:V3} {w wr w':World} (h:LcS b bu bv la lo u v w wr) (hb:Below wr.heap.size wr w'):LcS b bu bv la lo u v w w' :=
 ⟨h.p.via hb,h.r.via hb,h.us.via hb,h.vs.via hb,Below.then_ h.be hb⟩
theorem LcS.drewN {b bu bv:Nat} {la lo:Int} {u v:V3} {w wr:World} (h:LcS b bu bv la lo u v w wr) (n:Nat):LcS b bu bv la lo u v w (wr.drewN n) :=
 ⟨h.p,h.r,h.us,h.vs,below_drewN' h.be n⟩
theorem loc_eq (la lo ma mo:Int):locV la lo ma mo=⟨rnd (cosZ lo*(vecOf ma mo).y-sinZ lo*(vecOf ma mo).x),rnd (cosZ la*(vecOf ma mo).z-rnd (sinZ la*cosZ lo)*(vecOf ma mo).x-rnd (sinZ la*sinZ lo)*(vecOf ma mo).y),rnd ((vecOf la lo).dot (vecOf ma mo))⟩:=by
 unfold locV
 rw[show(eastV lo).dot (vecOf ma mo)=cosZ lo*(vecOf ma mo).y-sinZ lo*(vecOf ma mo).x by unfold V3.dot eastV;simp only;grind,
  show(northV la lo).dot (vecOf ma mo)=cosZ la*(vecOf ma mo).z-rnd (sinZ la*cosZ lo)*(vecOf ma mo).x-rnd (sinZ la*sinZ lo)*(vecOf ma mo).y by unfold V3.dot northV;simp only;grind]
set_option maxRecDepth 100000 in
set_option maxHeartbeats 8000000 in
theorem rLocal_any (la lo ma mo:Int) (w:World) (h1:vldB la lo=true) (h2:vldB ma mo=true) :
  Calls Tryz.prog 132 #[.agg #[.int .i64 la,.int .i64 lo],.agg #[.int .i64 ma,.int .i64 mo]] w fun e w'=>e=.returned (.tuple #[vcV (locV la lo ma mo),.int .i64 0])∧Below w.heap.size w w':=by
 have hb:=vld_bd h1
 have o1:=fun w=>rOf_ok la lo w h1
 have o2:=fun w=>rOf_ok ma mo w h2
 have sl:=fun w=>rslopes_any la lo w h1
 have HU:Hid (vecOf la lo).Ok:=vec_ok la lo
 have HV:Hid (vecOf ma mo).Ok:=vec_ok ma mo
 have dt:=fun w=>rdot_any _ _ w (vec_ok la lo) (vec_ok ma mo)
 have P:=pair_ok (vec_ok la lo) (vec_ok ma mo)
 have P2:=pair_ok (east_ok lo) (vec_ok ma mo)
 have P3:=pair_ok (north_ok la lo) (vec_ok ma mo)
 have d2:=P2.d1
 have d3:=P2.d2
 have d4:=P3.d1
 have d5:=P3.d2
 rw[show(eastV lo).dot (vecOf ma mo)=cosZ lo*(vecOf ma mo).y-sinZ lo*(vecOf ma mo).x by unfold V3.dot eastV;simp only;grind] at d2 d3
 rw[show(northV la lo).dot (vecOf ma mo)=cosZ la*(vecOf ma mo).z-rnd (sinZ la*cosZ lo)*(vecOf ma mo).x-rnd (sinZ la*sinZ lo)*(vecOf ma mo).y by unfold V3.dot northV;simp only;grind] at d4 d5
 have q1:=prod_bd _ _ (sinZ_bd la) (cosZ_bd lo)
 have q2:=prod_bd _ _ (sinZ_bd la) (sinZ_bd lo)
 have u1:=rnd_unit q1.1 q1.2
 have u2:=rnd_unit q2.1 q2.2
 have e1:=prod_bd _ _ (cosZ_bd lo) HV.out.y
 have e2:=prod_bd _ _ (sinZ_bd lo) HV.out.x
 have e3:=prod_bd _ _ (cosZ_bd la) HV.out.z
 have e4:=prod_bd _ _ u1 HV.out.x
 have e5:=prod_bd _ _ u2 HV.out.y
 have t1:=fun w=>rtSin_any lo w (by omega) (by omega)
 have t2:=fun w=>rtCos_any lo w (by omega) (by omega)
 have t3:=fun w=>rtCos_any la w (by omega) (by omega)
 rw[loc_eq]
 obtain⟨u,hu⟩:∃u,vecOf la lo=u:=⟨_,rfl⟩
 obtain⟨v,hv⟩:∃v,vecOf ma mo=v:=⟨_,rfl⟩
 rw[hu] at o1 dt
 rw[hv] at o2 dt d2 d3 d4 d5 e1 e2 e3 e4 e5
 rw[hu,hv]
 obtain⟨n1,hn1⟩:∃c,rnd (sinZ la*cosZ lo)=c:=⟨_,rfl⟩
 obtain⟨n2,hn2⟩:∃c,rnd (sinZ la*sinZ lo)=c:=⟨_,rfl⟩
 rw[hn1,hn2] at sl d4 d5
 rw[hn1] at e4
 rw[hn2] at e5
 rw[hn1,hn2]
 obtain⟨cl,hcl⟩:∃c,cosZ la=c:=⟨_,rfl⟩
 obtain⟨co,hco⟩:∃c,cosZ lo=c:=⟨_,rfl⟩
 obtain⟨so,hso⟩:∃c,sinZ lo=c:=⟨_,rfl⟩
 rw[hcl] at e3 d4 d5 t3
 rw[hco] at e1 d2 d3 t2
 rw[hso] at e2 d2 d3 t1
 rw[hcl,hco,hso]
 obtain⟨dd,hdd⟩:∃d,rnd (u.dot v)=d:=⟨_,rfl⟩
 rw[hdd] at dt
 rw[hdd]
 obtain⟨ux,uy,uz⟩:=u
 obtain⟨vx,vy,vz⟩:=v
 unfold vcV at o1 o2 dt ⊢
 simp only at o1 o2 dt d2 d3 d4 d5 e1 e2 e3 e4 e5 ⊢
 have w1:IntKind.i64.wrap (co*vy)=co*vy:=by rw[IntKind.wrap_i64];omega
 have w2:IntKind.i64.wrap (so*vx)=so*vx:=by rw[IntKind.wrap_i64];omega
 have w3:IntKind.i64.wrap (co*vy-so*vx)=co*vy-so*vx:=by rw[IntKind.wrap_i64];omega
 have w4:IntKind.i64.wrap (cl*vz)=cl*vz:=by rw[IntKind.wrap_i64];omega
 have w5:IntKind.i64.wrap (n1*vx)=n1*vx:=by rw[IntKind.wrap_i64];omega
 have w6:IntKind.i64.wrap (n2*vy)=n2*vy:=by rw[IntKind.wrap_i64];omega
 have w7:IntKind.i64.wrap (cl*vz-n1*vx)=cl*vz-n1*vx:=by rw[IntKind.wrap_i64];omega
 have w8:IntKind.i64.wrap (cl*vz-n1*vx-n2*vy)=cl*vz-n1*vx-n2*vy:=by rw[IntKind.wrap_i64];omega
 have r1:=fun w=>rround_any (co*vy-so*vx) w (by omega) (by omega)
 have r2:=fun w=>rround_any (cl*vz-n1*vx-n2*vy) w (by omega) (by omega)
 obtain⟨rx,hrx⟩:∃c,rnd (co*vy-so*vx)=c:=⟨_,rfl⟩
 obtain⟨ry,hry⟩:∃c,rnd (cl*vz-n1*vx-n2*vy)=c:=⟨_,rfl⟩
 rw[hrx] at r1
 rw[hry] at r2
 rw[hrx,hry]
 have W1:=Lib.hid w1
 have W2:=Lib.hid w2
 have W3:=Lib.hid w3
 have W4:=Lib.hid w4
 have W5:=Lib.hid w5
 have W6:=Lib.hid w6
 have W7:=Lib.hid w7
 have W8:=Lib.hid w8
 clear hu hv hn1 hn2 hcl hco hso hdd hrx hry w1 w2 w3 w4 w5 w6 w7 w8 HU HV P P2 P3 d2 d3 d4 d5 e1 e2 e3 e4 e5 q1 q2 u1 u2 hb h1 h2
 obtain⟨w0,hw0⟩:∃W,((w.alloc (.cells #[.int .i64 la,.int .i64 lo] 23)).alloc (.cells #[.int .i64 ma,.int .i64 mo] 23)).alloc (.cells #[.int .i64 0,.int .i64 0,.int .i64 0] 106)=W:=⟨_,rfl⟩
 have HB0:Hid (Below w.heap.size w w0):=by rw[←hw0];exact(((Below.refl _ _).alloc (Nat.le_refl _) _).alloc (by simp) _).alloc (by simp;omega) _
 have HP0:Hid (Bx w.heap.size #[.int .i64 la,.int .i64 lo] 23 w0):=by rw[←hw0];exact((Bx.last w _ _).grow _).grow _
 have HQ0:Hid (Bx (w.heap.size+1) #[.int .i64 ma,.int .i64 mo] 23 w0):=by rw[←hw0];exact(Bx.last2 w _ _ _).grow _
 have HR0:Hid (Bx (w.heap.size+1+1) #[.int .i64 0,.int .i64 0,.int .i64 0] 106 w0):=by
  have h1:=Bx.last2 (w.alloc (.cells #[.int .i64 la,.int .i64 lo] 23)) (.cells #[.int .i64 ma,.int .i64 mo] 23) #[.int .i64 0,.int .i64 0,.int .i64 0] 106
  rw[World.size_alloc,hw0] at h1
  exact h1
 have c0:=HP0.out.cell 0 (u:=.int .i64 la) rfl
 have c1:=HP0.out.cell 1 (u:=.int .i64 lo) rfl
 go_enter Tryz.func132,Tryz.ntmps132
 go_wp2_with fail
 try rw[hw0]
 clear hw0
 refine(o1 _).mono ?_
 rintro e wa ⟨rfl,hba⟩
 have HBA:=Lib.hid (Below.then_ HB0.out hba)
 have HPA:=Lib.hid (HP0.out.via hba)
 have HQA:=Lib.hid (HQ0.out.via hba)
 have HRA:=Lib.hid (HR0.out.via hba)
 clear hba HB0 HP0 HQ0 HR0 c0 c1 o1
 obtain⟨bu,hbu⟩:∃b,wa.heap.size=b:=⟨_,rfl⟩
 obtain⟨wb,hwb⟩:∃W,wa.alloc (.cells #[.int .i64 ux,.int .i64 uy,.int .i64 uz] 106)=W:=⟨_,rfl⟩
 have hbb:Below wa.heap.size wa wb:=by rw[←hwb];exact(Below.refl _ _).alloc (Nat.le_refl _) _
 have HUB:Hid (Bx bu #[.int .i64 ux,.int .i64 uy,.int .i64 uz] 106 wb):=by rw[←hwb,←hbu];exact Bx.last wa _ _
 have HBB:=Lib.hid (Below.then_ HBA.out hbb)
 have HPB:=Lib.hid (HPA.out.via hbb)
 have HQB:=Lib.hid (HQA.out.via hbb)
 have HRB:=Lib.hid (HRA.out.via hbb)
 have HWB:=Lib.hid hwb
 have HBU:=Lib.hid hbu
 clear hwb hbu hbb HBA HPA HQA HRA
 go_upto_region 2 with fail
 rw[HWB.out,HBU.out]
 clear HWB HBU
 have c0:=HQB.out.cell 0 (u:=.int .i64 ma) rfl
 have c1:=HQB.out.cell 1 (u:=.int .i64 mo) rfl
 go_wp2_with fail
 refine(o2 _).mono ?_
 rintro e wc ⟨rfl,hbc⟩
 have HBC:=Lib.hid (Below.then_ HBB.out hbc)
 have HPC:=Lib.hid (HPB.out.via hbc)
 have HRC:=Lib.hid (HRB.out.via hbc)
 have HUC:=Lib.hid (HUB.out.via hbc)
 clear hbc HBB HPB HQB HRB HUB c0 c1 o2
 obtain⟨bv,hbv⟩:∃b,wc.heap.size=b:=⟨_,rfl⟩
 obtain⟨wd,hwd⟩:∃W,wc.alloc (.cells #[.int .i64 vx,.int .i64 vy,.int .i64 vz] 106)=W:=⟨_,rfl⟩
 have hbd:Below wc.heap.size wc wd:=by rw[←hwd];exact(Below.refl _ _).alloc (Nat.le_refl _) _
 have S:Hid (LcS w.heap.size bu bv la lo ⟨ux,uy,uz⟩ ⟨vx,vy,vz⟩ w wd):=⟨HPC.out.via hbd,HRC.out.via hbd,HUC.out.via hbd,by rw[←hwd,←hbv];exact Bx.last wc _ _,Below.then_ HBC.out hbd⟩
 have HWD:=Lib.hid hwd
 have HBV:=Lib.hid hbv
 clear hwd hbv hbd HBC HPC HRC HUC
 go_upto_region 3 with fail
 rw[HWD.out,HBV.out]
 clear HWD HBV
 have c0:=S.out.p.cell 0 (u:=.int .i64 la) rfl
 have c1:=S.out.p.cell 1 (u:=.int .i64 lo) rfl
 go_wp2_with fail
 refine(sl _).mono ?_
 rintro e we ⟨rfl,hbe⟩
 have SE:=Lib.hid (S.out.below hbe)
 clear hbe S c0 c1 sl
 have c0:=SE.out.p.cell 0 (u:=.int .i64 la) rfl
 have c1:=SE.out.p.cell 1 (u:=.int .i64 lo) rfl
 obtain⟨⟨v0,v1,v2⟩,_⟩:=SE.out.vs.cells3
 have w1:=W1.out
 have w2:=W2.out
 have w3:=W3.out
 go_wp2_with fail
 go_quiet (first|(go_at_call 209;exact Calls.quiet_of_same ((t1 _).mono fun e w' ⟨h1,h2⟩=>⟨h1,h2.symm⟩))|(go_at_call 208;exact Calls.quiet_of_same ((t2 _).mono fun e w' ⟨h1,h2⟩=>⟨h1,h2.symm⟩))|(go_at_call 207;exact Calls.quiet_of_same ((r1 _).mono fun e w' ⟨h1,h2⟩=>⟨h1,h2.symm⟩)))
 have SF:=Lib.hid (SE.out.drewN nq)
 obtain⟨wf,hwf⟩:∃W,we.drewN nq=W:=⟨_,rfl⟩
 rw[hwf] at SF ⊢
 clear hwf SE c0 c1 v0 v1 v2 w1 w2 w3 t1 t2 r1
 have c0:=SF.out.p.cell 0 (u:=.int .i64 la) rfl
 have c1:=SF.out.p.cell 1 (u:=.int .i64 lo) rfl
 obtain⟨⟨v0,v1,v2⟩,_⟩:=SF.out.vs.cells3
 have w4:=W4.out
 have w5:=W5.out
 have w6:=W6.out
 have w7:=W7.out
 have w8:=W8.out
 go_wp2_with fail
 go_quiet (first|(go_at_call 208;exact Calls.quiet_of_same ((t3 _).mono fun e w' ⟨h1,h2⟩=>⟨h1,h2.symm⟩))|(go_at_call 207;exact Calls.quiet_of_same ((r2 _).mono fun e w' ⟨h1,h2⟩=>⟨h1,h2.symm⟩)))
 have SG:=Lib.hid (SF.out.drewN nq)
 obtain⟨wg,hwg⟩:∃W,wf.drewN nq=W:=⟨_,rfl⟩
 rw[hwg] at SG ⊢
 clear hwg SF c0 c1 v0 v1 v2 w4 w5 w6 w7 w8 t3 r2
 obtain⟨⟨v0,v1,v2⟩,_⟩:=SG.out.vs.cells3
 obtain⟨⟨u0,u1,u2⟩,_⟩:=SG.out.us.cells3
 go_wp2_with fail
 refine(dt _).mono ?_
 rintro e wh ⟨rfl,hbh⟩
 have SH:=Lib.hid (SG.out.below hbh)
 clear hbh SG v0 v1 v2 u0 u1 u2 dt
 obtain⟨⟨r0,r1,r2⟩,f0,f1,f2⟩:=SH.out.r.cells3
 have rl:=SH.out.r.lt
 have hx3:=Bx.set3 SH.out.r (.int .i64 rx) (.int .i64 ry) (.int .i64 dd)
 have HB3:=Lib.hid (bel_set3 SH.out.be (show w.heap.size≤w.heap.size+1+1 by omega) (.int .i64 rx) (.int .i64 ry) (.int .i64 dd))
 have HX3:=Lib.hid hx3
 clear hx3
 go_wp2
 obtain⟨⟨z0,z1,z2⟩,_⟩:=HX3.out.cells3
 refine bodyPost_ret (v:=.tuple #[.agg #[.int .i64 rx,.int .i64 ry,.int .i64 dd],.int .i64 0]) (by simp[results,Tryz.results132,go_sem,z0,z1,z2];try rfl) rfl ?_
 exact⟨rfl,HB3.out⟩
set_option maxRecDepth 100000 in
set_option maxHeartbeats 1000000 in
theorem rorigin_any (la lo:Int) (w:World):Calls Tryz.prog 130 #[.agg #[.int .i64 la,.int .i64 lo]] w fun e w'=>e=.returned (.bool (orgB la lo))∧Below w.heap.size w w':=by
 have hv:=fun w=>rsValid_any la lo w
 have HO:Hid (orgB la lo=(vldB la lo&&(decide (-25200000≤la)&&decide (la≤25200000)))):=rfl
 obtain⟨vb,hvb⟩:∃v,vldB la lo=v:=⟨_,rfl⟩
 rw[hvb] at hv HO
 clear hvb
 obtain⟨w0,hw0⟩:∃W,w.alloc (.cells #[.int .i64 la,.int .i64 lo] 23)=W:=⟨_,rfl⟩
 have B0:Hid (Below w.heap.size w w0):=by rw[←hw0];exact(Below.refl _ _).alloc (Nat.le_refl _) _
 have c0:w0.cell? ⟨w.heap.size,0,none⟩=some (.int .i64 la):=by rw[←hw0];simp[go_sem]
 have c1:w0.cell? ⟨w.heap.size,1,none⟩=some (.int .i64 lo):=by rw[←hw0];simp[go_sem]
 have lt:w.heap.size<w0.heap.size:=by rw[←hw0];simp
 go_enter Tryz.func130,Tryz.ntmps130
 go_wp2_with fail
 try rw[hw0]
 clear hw0
 refine(hv _).mono ?_
 rintro e w1 ⟨rfl,hb1⟩
 have B1:=Lib.hid (Below.then_ B0.out hb1)
 have d0:=(hb1.cell (p:=⟨w.heap.size,0,none⟩) lt).trans c0
 have d1:=(hb1.cell (p:=⟨w.heap.size,1,none⟩) lt).trans c1
 clear hb1 c0 c1 B0 hv
 cases vb with
 | false =>
  go_wp2
  go_ret
  exact⟨ret_bool (by rw[HO.out];rfl),B1.out⟩
 | true =>
  by_cases h1 : -25200000≤la
  ·by_cases h2:la≤25200000
   ·go_wp2
    go_ret
    exact⟨ret_bool (by rw[HO.out];first|(simp;done)|(simp;omega)),B1.out⟩
   ·go_wp2
    go_ret
    exact⟨ret_bool (by rw[HO.out];first|(simp;done)|(simp;omega)),B1.out⟩
  ·go_wp2
   go_ret
   exact⟨ret_bool (by rw[HO.out];first|(simp;done)|(simp;omega)),B1.out⟩
theorem rpValid_any (x y:Int) (w:World):Calls Tryz.prog 134 #[.agg #[.int .i64 x,.int .i64 y]] w fun e w'=>e=.returned (.bool (pntB x y))∧Below w.heap.size w w':=by
 have HO:Hid (pntB x y=(decide (-2000000≤x)&&decide (x≤2000000)&&(decide (-2000000≤y)&&decide (y≤2000000)))):=rfl
 by_cases h1 : -2000000≤x
 ·by_cases h2:x≤2000000
  ·by_cases h3 : -2000000≤y
   ·by_cases h4:y≤2000000
    ·go_enter Tryz.func134,Tryz.ntmps134
     go_wp2
     go_ret
     exact⟨ret_bool (by rw[HO.out];first|(simp;done)|(simp;omega)),(Below.refl _ _).alloc (Nat.le_refl _) _⟩
    ·go_enter Tryz.func134,Tryz.ntmps134
     go_wp2
     go_ret
     exact⟨ret_bool (by rw[HO.out];first|(simp;done)|(simp;omega)),(Below.refl _ _).alloc (Nat.le_refl _) _⟩
   ·go_enter Tryz.func134,Tryz.ntmps134
    go_wp2
    go_ret
    exact⟨ret_bool (by rw[HO.out];first|(simp;done)|(simp;omega)),(Below.refl _ _).alloc (Nat.le_refl _) _⟩
  ·go_enter Tryz.func134,Tryz.ntmps134
   go_wp2
   go_ret
   exact⟨ret_bool (by rw[HO.out];first|(simp;done)|(simp;omega)),(Below.refl _ _).alloc (Nat.le_refl _) _⟩
 ·go_enter Tryz.func134,Tryz.ntmps134
  go_wp2
  go_ret
  exact⟨ret_bool (by rw[HO.out];first|(simp;done)|(simp;omega)),(Below.refl _ _).alloc (Nat.le_refl _) _⟩
set_option maxRecDepth 100000 in
set_option maxHeartbeats 8000000 in
theorem rTo_post (la lo ma mo:Int) (w:World):Calls Tryz.prog 52 #[.agg #[.int .i64 la,.int .i64 lo],.agg #[.int .i64 ma,.int .i64 mo]] w (ToPost la lo ma mo w):=by
 have hv:=fun w=>rsValid_any ma mo w
 have io:=fun w=>rorigin_any la lo w
 obtain⟨w0,hw0⟩:∃W,((w.alloc (.cells #[.int .i64 la,.int .i64 lo] 23)).alloc (.cells #[.int .i64 ma,.int .i64 mo] 23)).alloc (.cells #[.int .i64 0,.int .i64 0] 40)=W:=⟨_,rfl⟩
 have BX:Hid (∀wa,Below w0.heap.size w0 wa→(wa.cell? ⟨w.heap.size,0,none⟩=some (.int .i64 la)∧wa.cell? ⟨w.heap.size,1,none⟩=some (.int .i64 lo)∧wa.cell? ⟨w.heap.size+1,0,none⟩=some (.int .i64 ma)∧wa.cell? ⟨w.heap.size+1,1,none⟩=some (.int .i64 mo)) ∧
   (wa.cell? ⟨w.heap.size+1+1,0,none⟩=some (.int .i64 0)∧wa.cell? ⟨w.heap.size+1+1,1,none⟩=some (.int .i64 0)∧wa.frozen? ⟨w.heap.size+1+1,0,none⟩=false∧wa.frozen? ⟨w.heap.size+1+1,1,none⟩=false)∧Below w.heap.size w wa∧w.heap.size+1+1<wa.heap.size):=by
  have hb0:Below w.heap.size w w0:=by rw[←hw0];exact(((Below.refl _ _).alloc (Nat.le_refl _) _).alloc (by simp) _).alloc (by simp;omega) _
  have hc:(w0.cell? ⟨w.heap.size,0,none⟩=some (.int .i64 la)∧w0.cell? ⟨w.heap.size,1,none⟩=some (.int .i64 lo)∧w0.cell? ⟨w.heap.size+1,0,none⟩=some (.int .i64 ma)∧w0.cell? ⟨w.heap.size+1,1,none⟩=some (.int .i64 mo)) ∧
   (w0.cell? ⟨w.heap.size+1+1,0,none⟩=some (.int .i64 0)∧w0.cell? ⟨w.heap.size+1+1,1,none⟩=some (.int .i64 0)∧w0.frozen? ⟨w.heap.size+1+1,0,none⟩=false∧w0.frozen? ⟨w.heap.size+1+1,1,none⟩=false)∧w.heap.size+1+1<w0.heap.size:=by rw[←hw0];simp[go_sem]
  obtain⟨⟨a0,a1,a2,a3⟩,⟨b0,b1,b2,b3⟩,hl⟩:=hc
  intro wa hb
  have l0:w.heap.size<w0.heap.size:=by omega
  have l1:w.heap.size+1<w0.heap.size:=by omega
  exact⟨⟨(hb.cell (p:=⟨w.heap.size,0,none⟩) l0).trans a0,(hb.cell (p:=⟨w.heap.size,1,none⟩) l0).trans a1,(hb.cell (p:=⟨w.heap.size+1,0,none⟩) l1).trans a2,(hb.cell (p:=⟨w.heap.size+1,1,none⟩) l1).trans a3⟩,
   ⟨(hb.cell (p:=⟨w.heap.size+1+1,0,none⟩) hl).trans b0,(hb.cell (p:=⟨w.heap.size+1+1,1,none⟩) hl).trans b1,(hb.frozen (p:=⟨w.heap.size+1+1,0,none⟩) hl).trans b2,(hb.frozen (p:=⟨w.heap.size+1+1,1,none⟩) hl).trans b3⟩,Below.then_ hb0 hb,Nat.lt_of_lt_of_le hl hb.size⟩
 obtain⟨⟨c0,c1,c2,c3⟩,_,_,_⟩:=BX.out w0 (Below.refl _ _)
 have HN:=Lib.hid (fun(er:Int) (W:World) (h:toE la lo ma mo=er) (h0:er≠0) (hb:Below w.heap.size w W)=>ToPost.no (w:=w) (w':=W) h h0 hb)
 have HK:=Lib.hid (fun(x y:Int) (W:World) (h:toE la lo ma mo=0) (hx:toX la lo ma mo=x) (hy:toY la lo ma mo=y) (hb:Below w.heap.size w W)=>ToPost.ok (w:=w) (w':=W) h hx hy hb)
 have HO1:=Lib.hid (@toE_org la lo ma mo)
 have HO2:=Lib.hid (@toE_vld la lo ma mo)
 have HO3:=Lib.hid (@toE_low la lo ma mo)
 have HO4:=Lib.hid (@toE_in la lo ma mo)
 have HLC:=Lib.hid (fun w=>rLocal_any la lo ma mo w)
 have HOV:=Lib.hid (@org_vld la lo)
 have HBD:=Lib.hid (loc_bd la lo ma mo)
 have HTX:Hid (toX la lo ma mo=mdrZ 20626481 (locV la lo ma mo).x (locV la lo ma mo).z):=rfl
 have HTY:Hid (toY la lo ma mo=mdrZ 20626481 (locV la lo ma mo).y (locV la lo ma mo).z):=rfl
 obtain⟨X,hX⟩:∃x,toX la lo ma mo=x:=⟨_,rfl⟩
 obtain⟨Y,hY⟩:∃x,toY la lo ma mo=x:=⟨_,rfl⟩
 rw[hX] at HTX
 rw[hY] at HTY
 rw[hX,hY] at HO4
 have HX:=Lib.hid hX
 have HY:=Lib.hid hY
 obtain⟨ob,hob⟩:∃x,orgB la lo=x:=⟨_,rfl⟩
 obtain⟨vb,hvb⟩:∃x,vldB ma mo=x:=⟨_,rfl⟩
 obtain⟨V,hV⟩:∃x,locV la lo ma mo=x:=⟨_,rfl⟩
 rw[hob] at io HO1 HO2 HO3 HO4 HOV
 rw[hvb] at hv HO2 HO3 HO4 HLC
 rw[hV] at HO3 HO4 HLC HBD HTX HTY
 obtain⟨vx,vy,vz⟩:=V
 unfold vcV at HLC
 simp only at HO3 HO4 HLC HBD HTX HTY
 clear hob hvb hV hX hY
 go_enter Tryz.func52,Tryz.ntmps52
 go_wp2_with fail
 try rw[hw0]
 clear hw0
 refine(io _).mono ?_
 rintro e w1 ⟨rfl,hb1⟩
 have HB1:=Lib.hid hb1
 clear hb1 c0 c1 c2 c3
 cases ob with
 | false =>
  obtain⟨_,⟨r0,r1,r2,r3⟩,hbb,hll⟩:=BX.out w1 HB1.out
  have HE:Hid (Below w.heap.size w ((w1.setCell ⟨w.heap.size+1+1,0,none⟩ (.int .i64 0)).setCell ⟨w.heap.size+1+1,1,none⟩ (.int .i64 0))):=(hbb.setCell (by simp;omega) _).setCell (by simp;omega) _
  clear hbb
  go_wp2
  refine bodyPost_ret (v:=.tuple #[.agg #[.int .i64 0,.int .i64 0],.int .i64 1]) (by simp[results,Tryz.results52,go_sem,r0,r1];try rfl) rfl ?_
  exact HN.out 1 _ (HO1.out (by trivial)) (by decide) HE.out
 | true =>
  obtain⟨⟨c0,c1,c2,c3⟩,_,_,_⟩:=BX.out w1 HB1.out
  go_wp2_with fail
  refine(hv _).mono ?_
  rintro e w2 ⟨rfl,hb2⟩
  have HB2:=Lib.hid (Below.then_ HB1.out hb2)
  clear hb2 HB1 c0 c1 c2 c3
  cases vb with
  | false =>
   obtain⟨_,⟨r0,r1,r2,r3⟩,hbb,hll⟩:=BX.out w2 HB2.out
   have HE:Hid (Below w.heap.size w ((w2.setCell ⟨w.heap.size+1+1,0,none⟩ (.int .i64 0)).setCell ⟨w.heap.size+1+1,1,none⟩ (.int .i64 0))):=(hbb.setCell (by simp;omega) _).setCell (by simp;omega) _
   clear hbb
   go_wp2
   refine bodyPost_ret (v:=.tuple #[.agg #[.int .i64 0,.int .i64 0],.int .i64 1]) (by simp[results,Tryz.results52,go_sem,r0,r1];try rfl) rfl ?_
   exact HN.out 1 _ (HO2.out (by trivial) (by trivial)) (by decide) HE.out
  | true =>
   obtain⟨⟨c0,c1,c2,c3⟩,_,_,_⟩:=BX.out w2 HB2.out
   go_wp2_with fail
   refine(HLC.out _ (HOV.out (by trivial)) (by trivial)).mono ?_
   rintro e w3 ⟨rfl,hb3⟩
   have HB3:=Lib.hid (Below.then_ HB2.out hb3)
   clear hb3 HB2 c0 c1 c2 c3
   obtain⟨w4,hw4⟩:∃W,w3.alloc (.cells #[.int .i64 vx,.int .i64 vy,.int .i64 vz] 106)=W:=⟨_,rfl⟩
   have X4:Hid (Bx w3.heap.size #[.int .i64 vx,.int .i64 vy,.int .i64 vz] 106 w4):=by rw[←hw4];exact Bx.last w3 _ _
   have HB4:Hid (Below w0.heap.size w0 w4):=by rw[←hw4];exact HB3.out.alloc HB3.out.size _
   have HW4:=Lib.hid hw4
   clear hw4
   go_upto_region 4 with fail
   rw[HW4.out]
   clear HW4
   obtain⟨⟨x0,x1,x2⟩,_⟩:=X4.out.cells3
   have xl:=X4.out.lt
   by_cases hz:vz≤0
   ·obtain⟨_,⟨r0,r1,r2,r3⟩,hbb,hll⟩:=BX.out w4 HB4.out
    have HE:Hid (Below w.heap.size w ((w4.setCell ⟨w.heap.size+1+1,0,none⟩ (.int .i64 0)).setCell ⟨w.heap.size+1+1,1,none⟩ (.int .i64 0))):=(hbb.setCell (by simp;omega) _).setCell (by simp;omega) _
    have HZ:=Lib.hid hz
    clear hbb
    go_wp2
    refine bodyPost_ret (v:=.tuple #[.agg #[.int .i64 0,.int .i64 0],.int .i64 2]) (by simp[results,Tryz.results52,go_sem,r0,r1];try rfl) rfl ?_
    exact HN.out 2 _ (HO3.out (by trivial) (by trivial) HZ.out) (by decide) HE.out
   ·obtain⟨Z,hZ⟩:∃Z:Nat,vz=(Z:Int):=⟨vz.toNat,by omega⟩
    obtain⟨bd1,bd2,bd3⟩:=HBD.out
    have md1:=fun w=>rround_mdr vx Z w bd1.1 bd1.2 (by omega) (by omega)
    have md2:=fun w=>rround_mdr vy Z w bd2.1 bd2.2 (by omega) (by omega)
    have HZ:=Lib.hid (HO4.out (by trivial) (by trivial) (by first|exact hz|omega))
    rw[←hZ,←HTX.out] at md1
    rw[←hZ,←HTY.out] at md2
    obtain⟨b1l,b1u⟩:=bd1
    obtain⟨b2l,b2u⟩:=bd2
    clear hZ bd3
    go_wp2_with fail
    refine(md1 _).mono ?_
    rintro e w5 ⟨rfl,hb5⟩
    have HB5:=Lib.hid (Below.then_ HB4.out hb5)
    have X5:=Lib.hid (X4.out.via hb5)
    clear hb5 HB4 X4 x0 x1 x2 xl
    obtain⟨⟨x0,x1,x2⟩,_⟩:=X5.out.cells3
    have xl:=X5.out.lt
    go_wp2_with fail
    refine(md2 _).mono ?_
    rintro e w6 ⟨rfl,hb6⟩
    have HB6:=Lib.hid (Below.then_ HB5.out hb6)
    clear hb6 HB5 X5 x0 x1 x2 xl md1 md2
    obtain⟨w7,hw7⟩:∃W,w6.alloc (.cells #[.int .i64 X,.int .i64 Y] 40)=W:=⟨_,rfl⟩
    have X7:Hid (Bx w6.heap.size #[.int .i64 X,.int .i64 Y] 40 w7):=by rw[←hw7];exact Bx.last w6 _ _
    have HB7:Hid (Below w0.heap.size w0 w7):=by rw[←hw7];exact HB6.out.alloc HB6.out.size _
    have HW7:=Lib.hid hw7
    have pv:=fun w=>rpValid_any X Y w
    obtain⟨pb,hpb⟩:∃x,pntB X Y=x:=⟨_,rfl⟩
    rw[hpb] at pv HZ
    clear hw7 hpb
    go_wp2_with fail
    rw[HW7.out]
    clear HW7
    refine(pv _).mono ?_
    rintro e w8 ⟨rfl,hb8⟩
    have HB8:=Lib.hid (Below.then_ HB7.out hb8)
    have X8:=Lib.hid (X7.out.via hb8)
    clear hb8 HB7 X7
    obtain⟨_,⟨r0,r1,r2,r3⟩,hbb,hll⟩:=BX.out w8 HB8.out
    cases pb with
    | false =>
     have HE:Hid (Below w.heap.size w ((w8.setCell ⟨w.heap.size+1+1,0,none⟩ (.int .i64 0)).setCell ⟨w.heap.size+1+1,1,none⟩ (.int .i64 0))):=(hbb.setCell (by simp;omega) _).setCell (by simp;omega) _
     clear hbb
     go_wp2
     refine bodyPost_ret (v:=.tuple #[.agg #[.int .i64 0,.int .i64 0],.int .i64 2]) (by simp[results,Tryz.results52,go_sem,r0,r1];try rfl) rfl ?_
     exact HN.out 2 _ (by rw[HZ.out];rfl) (by decide) HE.out
    | true =>
     have x0:=X8.out.cell 0 (u:=.int .i64 X) rfl
     have x1:=X8.out.cell 1 (u:=.int .i64 Y) rfl
     have xl:=X8.out.lt
     have HE:Hid (Below w.heap.size w ((w8.setCell ⟨w.heap.size+1+1,0,none⟩ (.int .i64 X)).setCell ⟨w.heap.size+1+1,1,none⟩ (.int .i64 Y))):=(hbb.setCell (by simp;omega) _).setCell (by simp;omega) _
     clear hbb
     go_wp2
     refine bodyPost_ret (v:=.tuple #[.agg #[.int .i64 X,.int .i64 Y],.int .i64 0]) (by simp[results,Tryz.results52,go_sem,r0,r1];try rfl) rfl ?_
     exact HK.out X Y _ (by rw[HZ.out];rfl) HX.out HY.out HE.out
theorem rTo_any (la lo ma mo:Int) (w:World):Calls Tryz.prog 52 #[.agg #[.int .i64 la,.int .i64 lo],.agg #[.int .i64 ma,.int .i64 mo]] w fun e w' =>
  e=.returned (.tuple #[.agg #[.int .i64 (toP la lo ma mo).1,.int .i64 (toP la lo ma mo).2],.int .i64 (toE la lo ma mo)])∧Below w.heap.size w w':=rTo_post la lo ma mo w
end Go.Proofs.YtgmehlgfilpleaaGreatDoor
