/-
  Contracts: the reference's procedures: the place of a part, which leg may be the first, how two procedures compare.
-/
import Derived.Test.YtgmehlgfilpleaaGreatDoorRkLeg
import Derived.Test.YtgmehlgfilpleaaGreatDoorMG05
namespace Go.Proofs.YtgmehlgfilpleaaGreatDoor
open Go.RowKit
set_option linter.unusedVariables false
set_option linter.unusedSimpArgs false
theorem rnk_none {k x:Nat} (h:∀m,m<3→(kndR k).getD m 0≠x):rnkN k x=0:=by
 unfold rnkN
 rw[if_neg]
 intro hm
 have h3:(kndR k).length=3:=by unfold kndR;split;rfl;split <;> rfl
 obtain⟨i,hi,e⟩:=List.getElem_of_mem hm
 refine h i (by omega) ?_
 rw[List.getD_eq_getElem?_getD,List.getElem?_eq_getElem hi];exact e
theorem rorder_any (x y:ByteArray) (w:World):Calls Tryz.prog 140 #[.string x,.string y] w fun e w'=>e=.returned (.int .i64 (cmpS (bl x) (bl y)))∧w=w':=by
 have HC:Hid (cmpS (bl x) (bl y)=if bl x<bl y then -1 else if bl y<bl x then 1 else 0):=rfl
 have b1:=bytesLess_bl x y
 have b2:=bytesLess_bl y x
 by_cases h1:bl x<bl y
 ·rw[decide_eq_true h1] at b1
  have HV:Hid (cmpS (bl x) (bl y) = -1):=by unfold Hid;rw[HC.out,if_pos h1]
  clear h1 b2 HC
  go_enter Tryz.func140,Tryz.ntmps140
  go_wp2
  go_ret
  exact⟨ret_int HV.out.symm,rfl⟩
 ·rw[decide_eq_false h1] at b1
  have se:=str_eqB (t:=x) (r:=y)
  by_cases h2:bl y<bl x
  ·rw[decide_eq_false (p:=bl x=bl y) (fun e=>by rw[e] at h2;exact blt_asymm h2 h2)] at se
   have HV:Hid (cmpS (bl x) (bl y)=1):=by unfold Hid;rw[HC.out,if_neg h1,if_pos h2]
   clear h1 h2 HC b2
   go_enter Tryz.func140,Tryz.ntmps140
   go_wp2
   go_ret
   exact⟨ret_int HV.out.symm,rfl⟩
  ·rw[decide_eq_true (p:=bl x=bl y) (blt_eq h1 h2)] at se
   have HV:Hid (cmpS (bl x) (bl y)=0):=by unfold Hid;rw[HC.out,if_neg h1,if_neg h2]
   clear h1 h2 HC b2
   go_enter Tryz.func140,Tryz.ntmps140
   go_wp2
   go_ret
   exact⟨ret_int HV.out.symm,rfl⟩
set_option maxHeartbeats 8000000 in
theorem rbegins_any (pk k t:Nat) (w:World) (h1:pk<256) (h2:k<256) (h3:t<256):Calls Tryz.prog 213 #[.int .u8 (pk:Int),.int .u8 (k:Int),.int .u8 (t:Int)] w fun e w'=>e=.returned (.bool (opnB pk k t))∧w=w':=by
 have HO:Hid (opnB pk k t=(((k == 4 || (k == 1&&pk == 1))&&(t == 3 || t == 4 || t == 7 || t == 8 || t == 10)) || t == 1)):=by
  unfold Hid opnB;rfl
 have u4:=u8_beq k 4
 have u1:=u8_beq k 1
 have up:=u8_beq pk 1
 replace u4:((k:Int) == 4)=(k == 4):=u4
 replace u1:((k:Int) == 1)=(k == 1):=u1
 replace up:((pk:Int) == 1)=(pk == 1):=up
 obtain⟨K4,hK4⟩:∃b,(k == 4)=b:=⟨_,rfl⟩
 obtain⟨K1,hK1⟩:∃b,(k == 1)=b:=⟨_,rfl⟩
 obtain⟨P1,hP1⟩:∃b,(pk == 1)=b:=⟨_,rfl⟩
 rw[hK4] at u4 HO
 rw[hK1] at u1 HO
 rw[hP1] at up HO
 clear hK4 hK1 hP1
 have ht:t=1∨t=3∨t=4∨t=7∨t=8∨t=10∨(t≠1∧t≠3∧t≠4∧t≠7∧t≠8∧t≠10):=by omega
 rcases ht with rfl|rfl|rfl|rfl|rfl|rfl|⟨t1,t3,t4,t7,t8,t10⟩
 case inr.inr.inr.inr.inr.inr =>
  have HO2:Hid (opnB pk k t=false):=by
   unfold Hid;rw[HO.out,beq_eq_false_iff_ne.2 t1,beq_eq_false_iff_ne.2 t3,beq_eq_false_iff_ne.2 t4,beq_eq_false_iff_ne.2 t7,beq_eq_false_iff_ne.2 t8,beq_eq_false_iff_ne.2 t10];simp
  have q1:((t:Int) == 1)=false:=beq_eq_false_iff_ne.2 (by omega)
  have q3:((t:Int) == 3)=false:=beq_eq_false_iff_ne.2 (by omega)
  have q4:((t:Int) == 4)=false:=beq_eq_false_iff_ne.2 (by omega)
  have q7:((t:Int) == 7)=false:=beq_eq_false_iff_ne.2 (by omega)
  have q8:((t:Int) == 8)=false:=beq_eq_false_iff_ne.2 (by omega)
  have q10:((t:Int) == 10)=false:=beq_eq_false_iff_ne.2 (by omega)
  clear t1 t3 t4 t7 t8 t10 HO
  cases K4 <;> cases K1 <;> cases P1
  all_goals
   go_enter Tryz.func213,Tryz.ntmps213
   go_wp2
   go_ret
   exact⟨ret_bool HO2.out.symm,rfl⟩
 all_goals
  cases K4 <;> cases K1 <;> cases P1
  all_goals
   go_enter Tryz.func213,Tryz.ntmps213
   go_wp2
   go_ret
   exact⟨ret_bool (by rw[HO.out];rfl),rfl⟩
theorem rfrom_any (t:Nat) (w:World) (ht:t<256):Calls Tryz.prog 291 #[.int .u8 (t:Int)] w fun e w'=>e=.returned (.bool (fromB t))∧w=w':=by
 have HB:Hid (fromB t=(decide (11≤t)&&decide (t≤17))):=rfl
 by_cases h1:11≤t
 ·rw[decide_eq_true h1] at HB
  have d1:(11:Int)≤(t:Int):=by omega
  by_cases h2:t≤17
  ·have HV:Hid (fromB t=true):=by unfold Hid;rw[HB.out,decide_eq_true h2];rfl
   have d2:(t:Int)≤17:=by omega
   clear h1 h2 HB
   go_enter Tryz.func291,Tryz.ntmps291
   go_wp2
   go_ret
   exact⟨ret_bool HV.out.symm,by first|rfl|trivial⟩
  ·have HV:Hid (fromB t=false):=by unfold Hid;rw[HB.out,decide_eq_false h2];rfl
   have d2:¬(t:Int)≤17:=by omega
   clear h1 h2 HB
   go_enter Tryz.func291,Tryz.ntmps291
   go_wp2
   go_ret
   exact⟨ret_bool HV.out.symm,by first|rfl|trivial⟩
 ·have HV:Hid (fromB t=false):=by unfold Hid;rw[HB.out,decide_eq_false h1];rfl
  have d1:¬(11:Int)≤(t:Int):=by omega
  clear h1 HB
  go_enter Tryz.func291,Tryz.ntmps291
  go_wp2
  go_ret
  exact⟨ret_bool HV.out.symm,by first|rfl|trivial⟩
set_option maxRecDepth 100000 in
set_option maxHeartbeats 40000000 in
theorem rFollows_any (a b:Nat) (w:World) (ha:a<256) (hb:b<256):Calls Tryz.prog 290 #[.int .u8 (a:Int),.int .u8 (b:Int)] w fun e w'=>e=.returned (.bool (flwB a b))∧w=w':=by
 have ua:=fun W=>ruses_any a W ha
 have ub:=fun W=>ruses_any b W hb
 have na:=str_nil (a:=rkU a)
 have nb:=str_nil (a:=rkU b)
 rw[rkU_nil] at na nb
 obtain⟨Ua,hUa⟩:∃u,rkU a=u:=⟨_,rfl⟩
 obtain⟨Ub,hUb⟩:∃u,rkU b=u:=⟨_,rfl⟩
 rw[hUa] at ua na
 rw[hUb] at ub nb
 clear hUa hUb
 by_cases h1:a<1∨17<a
 ·have HV:=Lib.hid (flw_out (a:=a) (b:=b) (by omega))
  rw[decide_eq_true h1] at na
  clear h1 nb
  go_enter Tryz.func290,Tryz.ntmps290
  go_wp2_with fail
  refine(ua _).mono ?_
  rintro e w1 ⟨rfl,rfl⟩
  go_wp2
  go_ret
  exact⟨ret_bool HV.out.symm,rfl⟩
 rw[decide_eq_false h1] at na
 by_cases h2:b<1∨17<b
 ·have HV:=Lib.hid (flw_out (a:=a) (b:=b) (by omega))
  rw[decide_eq_true h2] at nb
  clear h1 h2
  go_enter Tryz.func290,Tryz.ntmps290
  go_wp2_with fail
  refine(ua _).mono ?_
  rintro e w1 ⟨rfl,rfl⟩
  go_wp2_with fail
  refine(ub _).mono ?_
  rintro e w1 ⟨rfl,rfl⟩
  go_wp2
  go_ret
  exact⟨ret_bool HV.out.symm,rfl⟩
 rw[decide_eq_false h2] at nb
 by_cases hb1:b=1
 ·subst hb1
  have HV:=Lib.hid (flw_1 a (by omega))
  clear h1 h2
  go_enter Tryz.func290,Tryz.ntmps290
  go_wp2_with fail
  refine(ua _).mono ?_
  rintro e w1 ⟨rfl,rfl⟩
  go_wp2_with fail
  refine(ub _).mono ?_
  rintro e w1 ⟨rfl,rfl⟩
  go_wp2
  go_ret
  exact⟨ret_bool HV.out.symm,rfl⟩
 have hbc:b=2∨b=3∨b=4∨b=5∨b=6∨b=7∨b=8∨b=9∨b=10∨b=11∨b=12∨b=13∨b=14∨b=15∨b=16∨b=17:=by omega
 by_cases h6:a≤6
 ·have HF:Hid (∀b,b<18→2≤b→flwB a b=true):=flw_6 a (by omega) (by omega) h6
  have d6:(a:Int)≤6:=by omega
  clear h1 h2 hb1 hb ha h6
  rcases hbc with rfl|rfl|rfl|rfl|rfl|rfl|rfl|rfl|rfl|rfl|rfl|rfl|rfl|rfl|rfl|rfl
  all_goals
   go_enter Tryz.func290,Tryz.ntmps290
   go_wp2_with fail
   refine(ua _).mono ?_
   rintro e w1 ⟨rfl,rfl⟩
   go_wp2_with fail
   refine(ub _).mono ?_
   rintro e w1 ⟨rfl,rfl⟩
   go_wp2
   go_ret
   exact⟨ret_bool (by first|(rw[HF.out _ (by decide) (by decide)];done)|(rw[HF.out _ (by decide) (by decide)];rfl)),rfl⟩
 by_cases h9:a=9
 ·subst h9
  have HF:Hid (∀b,b<18→2≤b→flwB 9 b=(b == 3)):=flw_9
  clear h1 h2 hb1 hb ha h6
  rcases hbc with rfl|rfl|rfl|rfl|rfl|rfl|rfl|rfl|rfl|rfl|rfl|rfl|rfl|rfl|rfl|rfl
  all_goals
   go_enter Tryz.func290,Tryz.ntmps290
   go_wp2_with fail
   refine(ua _).mono ?_
   rintro e w1 ⟨rfl,rfl⟩
   go_wp2_with fail
   refine(ub _).mono ?_
   rintro e w1 ⟨rfl,rfl⟩
   go_wp2
   go_ret
   exact⟨ret_bool (by first|(rw[HF.out _ (by decide) (by decide)];done)|(rw[HF.out _ (by decide) (by decide)];rfl)),rfl⟩
 by_cases h13:a=13
 ·subst h13
  have HF:Hid (∀b,b<18→2≤b→flwB 13 b=false):=fun b h _=>flw_13 b h
  clear h1 h2 hb1 hb ha h6 h9
  rcases hbc with rfl|rfl|rfl|rfl|rfl|rfl|rfl|rfl|rfl|rfl|rfl|rfl|rfl|rfl|rfl|rfl
  all_goals
   go_enter Tryz.func290,Tryz.ntmps290
   go_wp2_with fail
   refine(ua _).mono ?_
   rintro e w1 ⟨rfl,rfl⟩
   go_wp2_with fail
   refine(ub _).mono ?_
   rintro e w1 ⟨rfl,rfl⟩
   go_wp2
   go_ret
   exact⟨ret_bool (by first|(rw[HF.out _ (by decide) (by decide)];done)|(rw[HF.out _ (by decide) (by decide)];rfl)),rfl⟩
 by_cases h14:14≤a
 ·have HF:Hid (∀b,b<18→2≤b→flwB a b=(b == 2 || b == 3 || b == 4 || (decide (7≤b)&&decide (b≤13)))):=flw_14 a (by omega) h14
  have d6:¬(a:Int)≤6:=by omega
  have d9:((a:Int) == 9)=false:=beq_eq_false_iff_ne.2 (by omega)
  have d13:((a:Int) == 13)=false:=beq_eq_false_iff_ne.2 (by omega)
  have d14:(14:Int)≤(a:Int):=by omega
  clear h1 h2 hb1 hb ha h6 h9 h13 h14
  rcases hbc with rfl|rfl|rfl|rfl|rfl|rfl|rfl|rfl|rfl|rfl|rfl|rfl|rfl|rfl|rfl|rfl
  all_goals
   go_enter Tryz.func290,Tryz.ntmps290
   go_wp2_with fail
   refine(ua _).mono ?_
   rintro e w1 ⟨rfl,rfl⟩
   go_wp2_with fail
   refine(ub _).mono ?_
   rintro e w1 ⟨rfl,rfl⟩
   go_wp2
   go_ret
   exact⟨ret_bool (by first|(rw[HF.out _ (by decide) (by decide)];done)|(rw[HF.out _ (by decide) (by decide)];rfl)),rfl⟩
 ·have HF:Hid (∀b,b<18→2≤b→flwB a b=(b == 3 || b == 4 || (decide (7≤b)&&decide (b≤10)))):=flw_r a (by omega) ⟨by omega,by omega,h9⟩
  have d6:¬(a:Int)≤6:=by omega
  have d9:((a:Int) == 9)=false:=beq_eq_false_iff_ne.2 (by omega)
  have d13:((a:Int) == 13)=false:=beq_eq_false_iff_ne.2 (by omega)
  have d14:¬(14:Int)≤(a:Int):=by omega
  clear h1 h2 hb1 hb ha h6 h9 h13 h14
  rcases hbc with rfl|rfl|rfl|rfl|rfl|rfl|rfl|rfl|rfl|rfl|rfl|rfl|rfl|rfl|rfl|rfl
  all_goals
   go_enter Tryz.func290,Tryz.ntmps290
   go_wp2_with fail
   refine(ua _).mono ?_
   rintro e w1 ⟨rfl,rfl⟩
   go_wp2_with fail
   refine(ub _).mono ?_
   rintro e w1 ⟨rfl,rfl⟩
   go_wp2
   go_ret
   exact⟨ret_bool (by first|(rw[HF.out _ (by decide) (by decide)];done)|(rw[HF.out _ (by decide) (by decide)];rfl)),rfl⟩
set_option maxRecDepth 100000 in
set_option maxHeartbeats 4000000 in
theorem rJoins_any (a b:Lg) (w:World) (ha:LgOk a) (hb:LgOk b):Calls Tryz.prog 214 #[.agg (lgc a).toArray,.agg (lgc b).toArray] w fun e w'=>e=.returned (.bool (jnB a b))∧Below w.heap.size w w':=by
 have fl:=fun w=>rFollows_any a.ty b.ty w ha.2.2.1 hb.2.2.1
 have fr:=fun w=>rfrom_any b.ty w hb.2.2.1
 have HV:Hid (jnB a b=(flwB a.ty b.ty&&(!fromB b.ty || decide (a.fi=b.fi)))):=rfl
 obtain⟨w0,hw0⟩:∃W,(w.alloc (.cells (lgc a).toArray 65)).alloc (.cells (lgc b).toArray 65)=W:=⟨_,rfl⟩
 obtain⟨b0,X0,Y0⟩:=Lg.boxes a b hw0
 have B0:=Lib.hid b0
 have x0:=X0.cell 0 (u:=.int .u8 (a.ty:Int)) rfl
 have x1:=X0.cell 1 (u:=.string (sb a.fi)) rfl
 have y0:=Y0.cell 0 (u:=.int .u8 (b.ty:Int)) rfl
 have y1:=Y0.cell 1 (u:=.string (sb b.fi)) rfl
 have xl:=X0.lt
 have yl:=Y0.lt
 have es:((sb a.fi).toList == (sb b.fi).toList)=decide (a.fi=b.fi):=by rw[str_eqB,bl_sb,bl_sb]
 obtain⟨F,hF⟩:∃x,flwB a.ty b.ty=x:=⟨_,rfl⟩
 obtain⟨G,hG⟩:∃x,fromB b.ty=x:=⟨_,rfl⟩
 obtain⟨E,hE⟩:∃x,decide (a.fi=b.fi)=x:=⟨_,rfl⟩
 rw[hF] at fl HV
 rw[hG] at fr HV
 rw[hE] at es HV
 rw[HV.out]
 clear HV hF hG hE ha hb b0 X0 Y0
 obtain⟨aty,afi,ace,atn,aov,acr,ads,ara,ath,alo,ahi,asp,arn⟩:=a
 obtain⟨bty,bfi,bce,btn,bov,bcr,bds,bra,bth,blo,bhi,bsp,brn⟩:=b
 unfold lgc at hw0 ⊢
 simp only at x0 x1 y0 y1 es fl fr hw0 ⊢
 have HW0:=Lib.hid hw0
 clear hw0
 go_enter Tryz.func214,Tryz.ntmps214
 go_wp2_with fail
 rw[HW0.out]
 clear HW0
 refine(fl _).mono ?_
 rintro e w1 ⟨rfl,rfl⟩
 cases F
 ·go_wp2
  go_ret
  exact⟨rfl,B0.out⟩
 ·go_wp2_with fail
  refine(fr _).mono ?_
  rintro e w1 ⟨rfl,rfl⟩
  cases G
  ·go_wp2
   go_ret
   exact⟨rfl,B0.out⟩
  ·go_wp2
   go_ret
   exact⟨by first|rfl|simp,B0.out⟩
theorem rnk_hit {k x j:Nat} (hj:j<3) (h:(kndR k).getD j 0=x) (h0:∀m,m<j→(kndR k).getD m 0≠x):rnkN k x=j+1:=by
 have hl:∀k,kndR k=[1,2,3]∨kndR k=[3,2,1]∨kndR k=[3,2,4]:=fun k=>by
  unfold kndR
  by_cases h2:k=2
  ·rw[if_pos h2];exact .inr (.inl rfl)
  ·rw[if_neg h2]
   by_cases h3:k=3
   ·rw[if_pos h3];exact .inr (.inr rfl)
   ·rw[if_neg h3];exact .inl rfl
 unfold rnkN
 rcases hl k with e|e|e
 all_goals
  rw[e] at h h0 ⊢
  have hj3:j=0∨j=1∨j=2:=by omega
  rcases hj3 with rfl|rfl|rfl
  all_goals
   subst h
   rfl
theorem rkI10 (w:World):(Instr.index 270 (.agg #[.int .u8 1,.int .u8 2,.int .u8 3]) (.int .i64 0)).run Tryz.prog w=.ok (.int .u8 1) w:=by kernel_rfl
theorem rkI11 (w:World):(Instr.index 270 (.agg #[.int .u8 1,.int .u8 2,.int .u8 3]) (.int .i64 1)).run Tryz.prog w=.ok (.int .u8 2) w:=by kernel_rfl
theorem rkI12 (w:World):(Instr.index 270 (.agg #[.int .u8 1,.int .u8 2,.int .u8 3]) (.int .i64 2)).run Tryz.prog w=.ok (.int .u8 3) w:=by kernel_rfl
theorem rkI20 (w:World):(Instr.index 270 (.agg #[.int .u8 3,.int .u8 2,.int .u8 1]) (.int .i64 0)).run Tryz.prog w=.ok (.int .u8 3) w:=by kernel_rfl
theorem rkI21 (w:World):(Instr.index 270 (.agg #[.int .u8 3,.int .u8 2,.int .u8 1]) (.int .i64 1)).run Tryz.prog w=.ok (.int .u8 2) w:=by kernel_rfl
theorem rkI22 (w:World):(Instr.index 270 (.agg #[.int .u8 3,.int .u8 2,.int .u8 1]) (.int .i64 2)).run Tryz.prog w=.ok (.int .u8 1) w:=by kernel_rfl
theorem rkI30 (w:World):(Instr.index 270 (.agg #[.int .u8 3,.int .u8 2,.int .u8 4]) (.int .i64 0)).run Tryz.prog w=.ok (.int .u8 3) w:=by kernel_rfl
theorem rkI31 (w:World):(Instr.index 270 (.agg #[.int .u8 3,.int .u8 2,.int .u8 4]) (.int .i64 1)).run Tryz.prog w=.ok (.int .u8 2) w:=by kernel_rfl
theorem rkI32 (w:World):(Instr.index 270 (.agg #[.int .u8 3,.int .u8 2,.int .u8 4]) (.int .i64 2)).run Tryz.prog w=.ok (.int .u8 4) w:=by kernel_rfl
set_option maxRecDepth 100000 in
set_option maxHeartbeats 8000000 in
theorem rrank_any (k x:Nat) (w:World) (hk:k=1∨k=2∨k=3):Calls Tryz.prog 138 #[.int .u8 (k:Int),.int .u8 (x:Int)] w fun e w'=>e=.returned (.int .i64 (rnkN k x:Int))∧Below w.heap.size w w':=by
 have HN:=Lib.hid (@rnk_none k x)
 have HH:=Lib.hid (fun j hj h h0=>@rnk_hit k x j hj h h0)
 obtain⟨R,hR⟩:∃R,rnkN k x=R:=⟨_,rfl⟩
 rw[hR] at HN HH
 rw[hR]
 clear hR
 rcases hk with rfl|rfl|rfl
 ·have i0:=rkI10
  have i1:=rkI11
  have i2:=rkI12
  have HL:Hid (∀j,j<3→(kndR 1).getD j 0=([1,2,3]:List Nat).getD j 0):=fun j _=>rfl
  obtain⟨w0,hw0⟩:∃W,w.alloc (.cells #[.int .u8 1,.int .u8 2,.int .u8 3] 270)=W:=⟨_,rfl⟩
  have B0:Hid (Below w.heap.size w w0):=by rw[←hw0];exact(Below.refl _ _).alloc (Nat.le_refl _) _
  have X0:Hid (Bx w.heap.size #[.int .u8 1,.int .u8 2,.int .u8 3] 270 w0):=by rw[←hw0];exact Bx.last w _ _
  have HW:=Lib.hid hw0
  clear hw0
  go_enter Tryz.func138,Tryz.ntmps138
  go_upto_region 2 with fail
  rw[HW.out]
  clear HW
  obtain⟨⟨x0,x1,x2⟩,_⟩:=X0.out.cells3
  have xl:=X0.out.lt
  have B1:=B0
  obtain⟨w1,hw1⟩:∃W,W=w0:=⟨_,rfl⟩
  go_wp2_with fail
  go_loopw [16] (fun iv wr=>∃j:Nat,j≤3∧iv=.int .i64 (j:Int)∧Hid (∀m,m<j→(kndR 1).getD m 0≠x)∧Hid (wr=w0)) (fun iv _=>3-(intOf iv).toNat)
  case atStart=>exact⟨0,by omega,rfl,fun m hm=>absurd hm (Nat.not_lt_zero _),rfl⟩
  case round =>
   obtain⟨j,hj,rfl,hno,hw⟩:=hrel
   clear x0 x1 x2 xl
   have BE:Hid (Below w.heap.size w wr):=by unfold Hid;rw[hw.out];exact B1.out
   have hj3:j=0∨j=1∨j=2∨j=3:=by omega
   rcases hj3 with rfl|rfl|rfl|rfl
   ·by_cases hx:1=x
    ·have HV:Hid (R=1):=HH.out 0 (by omega) hx hno.out
     have e1:((1:Int) == (x:Int))=true:=by rw[beq_iff_eq];omega
     clear hx
     go_wp2
     go_ret
     exact⟨ret_int (by rw[HV.out];rfl),BE.out⟩
    ·have e1:((1:Int) == (x:Int))=false:=beq_eq_false_iff_ne.2 (by omega)
     have HNO:Hid (∀m,m<1→(kndR 1).getD m 0≠x):=fun m hm=>by
      by_cases h9:m<0
      ·exact hno.out m h9
      ·rw[show m=0 by omega];exact hx
     clear hx
     go_wp2
     go_roundw
     case rel=>exact⟨1,by omega,by first|rfl|go_num,HNO,hw⟩
     case measure=>simp[intOf]
   ·by_cases hx:2=x
    ·have HV:Hid (R=2):=HH.out 1 (by omega) hx hno.out
     have e1:((2:Int) == (x:Int))=true:=by rw[beq_iff_eq];omega
     clear hx
     go_wp2
     go_ret
     exact⟨ret_int (by rw[HV.out];rfl),BE.out⟩
    ·have e1:((2:Int) == (x:Int))=false:=beq_eq_false_iff_ne.2 (by omega)
     have HNO:Hid (∀m,m<2→(kndR 1).getD m 0≠x):=fun m hm=>by
      by_cases h9:m<1
      ·exact hno.out m h9
      ·rw[show m=1 by omega];exact hx
     clear hx
     go_wp2
     go_roundw
     case rel=>exact⟨2,by omega,by first|rfl|go_num,HNO,hw⟩
     case measure=>simp[intOf]
   ·by_cases hx:3=x
    ·have HV:Hid (R=3):=HH.out 2 (by omega) hx hno.out
     have e1:((3:Int) == (x:Int))=true:=by rw[beq_iff_eq];omega
     clear hx
     go_wp2
     go_ret
     exact⟨ret_int (by rw[HV.out];rfl),BE.out⟩
    ·have e1:((3:Int) == (x:Int))=false:=beq_eq_false_iff_ne.2 (by omega)
     have HNO:Hid (∀m,m<3→(kndR 1).getD m 0≠x):=fun m hm=>by
      by_cases h9:m<2
      ·exact hno.out m h9
      ·rw[show m=2 by omega];exact hx
     clear hx
     go_wp2
     go_roundw
     case rel=>exact⟨3,by omega,by first|rfl|go_num,HNO,hw⟩
     case measure=>simp[intOf]
   ·have HV:Hid (R=0):=HN.out hno.out
    go_wp2
    go_ret
    exact⟨ret_int (by rw[HV.out];rfl),BE.out⟩
 ·have i0:=rkI20
  have i1:=rkI21
  have i2:=rkI22
  have HL:Hid (∀j,j<3→(kndR 2).getD j 0=([3,2,1]:List Nat).getD j 0):=fun j _=>rfl
  obtain⟨w0,hw0⟩:∃W,w.alloc (.cells #[.int .u8 1,.int .u8 2,.int .u8 3] 270)=W:=⟨_,rfl⟩
  have B0:Hid (Below w.heap.size w w0):=by rw[←hw0];exact(Below.refl _ _).alloc (Nat.le_refl _) _
  have X0:Hid (Bx w.heap.size #[.int .u8 1,.int .u8 2,.int .u8 3] 270 w0):=by rw[←hw0];exact Bx.last w _ _
  have HW:=Lib.hid hw0
  clear hw0
  go_enter Tryz.func138,Tryz.ntmps138
  go_upto_region 2 with fail
  rw[HW.out]
  clear HW
  obtain⟨⟨x0,x1,x2⟩,f0,f1,f2⟩:=X0.out.cells3
  have xl:=X0.out.lt
  obtain⟨w1,hw1⟩:∃W,((w0.setCell ⟨w.heap.size,0,none⟩ (.int .u8 3)).setCell ⟨w.heap.size,1,none⟩ (.int .u8 2)).setCell ⟨w.heap.size,2,none⟩ (.int .u8 1)=W:=⟨_,rfl⟩
  have B1:Hid (Below w.heap.size w w1):=by rw[←hw1];exact bel_set3 B0.out (Nat.le_refl _) _ _ _
  have X1:Hid (Bx w.heap.size #[.int .u8 3,.int .u8 2,.int .u8 1] 270 w1):=by rw[←hw1];exact Bx.set3 X0.out _ _ _
  have HW1:=Lib.hid hw1
  clear hw1
  go_upto_region 4 with fail
  rw[HW1.out]
  clear HW1 x0 x1 x2 f0 f1 f2 xl
  obtain⟨⟨x0,x1,x2⟩,_⟩:=X1.out.cells3
  have xl:=X1.out.lt
  go_wp2_with fail
  go_loopw [16] (fun iv wr=>∃j:Nat,j≤3∧iv=.int .i64 (j:Int)∧Hid (∀m,m<j→(kndR 2).getD m 0≠x)∧Hid (wr=w1)) (fun iv _=>3-(intOf iv).toNat)
  case atStart=>exact⟨0,by omega,rfl,fun m hm=>absurd hm (Nat.not_lt_zero _),rfl⟩
  case round =>
   obtain⟨j,hj,rfl,hno,hw⟩:=hrel
   clear x0 x1 x2 xl
   have BE:Hid (Below w.heap.size w wr):=by unfold Hid;rw[hw.out];exact B1.out
   have hj3:j=0∨j=1∨j=2∨j=3:=by omega
   rcases hj3 with rfl|rfl|rfl|rfl
   ·by_cases hx:3=x
    ·have HV:Hid (R=1):=HH.out 0 (by omega) hx hno.out
     have e1:((3:Int) == (x:Int))=true:=by rw[beq_iff_eq];omega
     clear hx
     go_wp2
     go_ret
     exact⟨ret_int (by rw[HV.out];rfl),BE.out⟩
    ·have e1:((3:Int) == (x:Int))=false:=beq_eq_false_iff_ne.2 (by omega)
     have HNO:Hid (∀m,m<1→(kndR 2).getD m 0≠x):=fun m hm=>by
      by_cases h9:m<0
      ·exact hno.out m h9
      ·rw[show m=0 by omega];exact hx
     clear hx
     go_wp2
     go_roundw
     case rel=>exact⟨1,by omega,by first|rfl|go_num,HNO,hw⟩
     case measure=>simp[intOf]
   ·by_cases hx:2=x
    ·have HV:Hid (R=2):=HH.out 1 (by omega) hx hno.out
     have e1:((2:Int) == (x:Int))=true:=by rw[beq_iff_eq];omega
     clear hx
     go_wp2
     go_ret
     exact⟨ret_int (by rw[HV.out];rfl),BE.out⟩
    ·have e1:((2:Int) == (x:Int))=false:=beq_eq_false_iff_ne.2 (by omega)
     have HNO:Hid (∀m,m<2→(kndR 2).getD m 0≠x):=fun m hm=>by
      by_cases h9:m<1
      ·exact hno.out m h9
      ·rw[show m=1 by omega];exact hx
     clear hx
     go_wp2
     go_roundw
     case rel=>exact⟨2,by omega,by first|rfl|go_num,HNO,hw⟩
     case measure=>simp[intOf]
   ·by_cases hx:1=x
    ·have HV:Hid (R=3):=HH.out 2 (by omega) hx hno.out
     have e1:((1:Int) == (x:Int))=true:=by rw[beq_iff_eq];omega
     clear hx
     go_wp2
     go_ret
     exact⟨ret_int (by rw[HV.out];rfl),BE.out⟩
    ·have e1:((1:Int) == (x:Int))=false:=beq_eq_false_iff_ne.2 (by omega)
     have HNO:Hid (∀m,m<3→(kndR 2).getD m 0≠x):=fun m hm=>by
      by_cases h9:m<2
      ·exact hno.out m h9
      ·rw[show m=2 by omega];exact hx
     clear hx
     go_wp2
     go_roundw
     case rel=>exact⟨3,by omega,by first|rfl|go_num,HNO,hw⟩
     case measure=>simp[intOf]
   ·have HV:Hid (R=0):=HN.out hno.out
    go_wp2
    go_ret
    exact⟨ret_int (by rw[HV.out];rfl),BE.out⟩
 ·have i0:=rkI30
  have i1:=rkI31
  have i2:=rkI32
  have HL:Hid (∀j,j<3→(kndR 3).getD j 0=([3,2,4]:List Nat).getD j 0):=fun j _=>rfl
  obtain⟨w0,hw0⟩:∃W,w.alloc (.cells #[.int .u8 1,.int .u8 2,.int .u8 3] 270)=W:=⟨_,rfl⟩
  have B0:Hid (Below w.heap.size w w0):=by rw[←hw0];exact(Below.refl _ _).alloc (Nat.le_refl _) _
  have X0:Hid (Bx w.heap.size #[.int .u8 1,.int .u8 2,.int .u8 3] 270 w0):=by rw[←hw0];exact Bx.last w _ _
  have HW:=Lib.hid hw0
  clear hw0
  go_enter Tryz.func138,Tryz.ntmps138
  go_upto_region 2 with fail
  rw[HW.out]
  clear HW
  obtain⟨⟨x0,x1,x2⟩,f0,f1,f2⟩:=X0.out.cells3
  have xl:=X0.out.lt
  obtain⟨w1,hw1⟩:∃W,((w0.setCell ⟨w.heap.size,0,none⟩ (.int .u8 3)).setCell ⟨w.heap.size,1,none⟩ (.int .u8 2)).setCell ⟨w.heap.size,2,none⟩ (.int .u8 4)=W:=⟨_,rfl⟩
  have B1:Hid (Below w.heap.size w w1):=by rw[←hw1];exact bel_set3 B0.out (Nat.le_refl _) _ _ _
  have X1:Hid (Bx w.heap.size #[.int .u8 3,.int .u8 2,.int .u8 4] 270 w1):=by rw[←hw1];exact Bx.set3 X0.out _ _ _
  have HW1:=Lib.hid hw1
  clear hw1
  go_upto_region 6 with fail
  rw[HW1.out]
  clear HW1 x0 x1 x2 f0 f1 f2 xl
  obtain⟨⟨x0,x1,x2⟩,_⟩:=X1.out.cells3
  have xl:=X1.out.lt
  go_wp2_with fail
  go_loopw [16] (fun iv wr=>∃j:Nat,j≤3∧iv=.int .i64 (j:Int)∧Hid (∀m,m<j→(kndR 3).getD m 0≠x)∧Hid (wr=w1)) (fun iv _=>3-(intOf iv).toNat)
  case atStart=>exact⟨0,by omega,rfl,fun m hm=>absurd hm (Nat.not_lt_zero _),rfl⟩
  case round =>
   obtain⟨j,hj,rfl,hno,hw⟩:=hrel
   clear x0 x1 x2 xl
   have BE:Hid (Below w.heap.size w wr):=by unfold Hid;rw[hw.out];exact B1.out
   have hj3:j=0∨j=1∨j=2∨j=3:=by omega
   rcases hj3 with rfl|rfl|rfl|rfl
   ·by_cases hx:3=x
    ·have HV:Hid (R=1):=HH.out 0 (by omega) hx hno.out
     have e1:((3:Int) == (x:Int))=true:=by rw[beq_iff_eq];omega
     clear hx
     go_wp2
     go_ret
     exact⟨ret_int (by rw[HV.out];rfl),BE.out⟩
    ·have e1:((3:Int) == (x:Int))=false:=beq_eq_false_iff_ne.2 (by omega)
     have HNO:Hid (∀m,m<1→(kndR 3).getD m 0≠x):=fun m hm=>by
      by_cases h9:m<0
      ·exact hno.out m h9
      ·rw[show m=0 by omega];exact hx
     clear hx
     go_wp2
     go_roundw
     case rel=>exact⟨1,by omega,by first|rfl|go_num,HNO,hw⟩
     case measure=>simp[intOf]
   ·by_cases hx:2=x
    ·have HV:Hid (R=2):=HH.out 1 (by omega) hx hno.out
     have e1:((2:Int) == (x:Int))=true:=by rw[beq_iff_eq];omega
     clear hx
     go_wp2
     go_ret
     exact⟨ret_int (by rw[HV.out];rfl),BE.out⟩
    ·have e1:((2:Int) == (x:Int))=false:=beq_eq_false_iff_ne.2 (by omega)
     have HNO:Hid (∀m,m<2→(kndR 3).getD m 0≠x):=fun m hm=>by
      by_cases h9:m<1
      ·exact hno.out m h9
      ·rw[show m=1 by omega];exact hx
     clear hx
     go_wp2
     go_roundw
     case rel=>exact⟨2,by omega,by first|rfl|go_num,HNO,hw⟩
     case measure=>simp[intOf]
   ·by_cases hx:4=x
    ·have HV:Hid (R=3):=HH.out 2 (by omega) hx hno.out
     have e1:((4:Int) == (x:Int))=true:=by rw[beq_iff_eq];omega
     clear hx
     go_wp2
     go_ret
     exact⟨ret_int (by rw[HV.out];rfl),BE.out⟩
    ·have e1:((4:Int) == (x:Int))=false:=beq_eq_false_iff_ne.2 (by omega)
     have HNO:Hid (∀m,m<3→(kndR 3).getD m 0≠x):=fun m hm=>by
      by_cases h9:m<2
      ·exact hno.out m h9
      ·rw[show m=2 by omega];exact hx
     clear hx
     go_wp2
     go_roundw
     case rel=>exact⟨3,by omega,by first|rfl|go_num,HNO,hw⟩
     case measure=>simp[intOf]
   ·have HV:Hid (R=0):=HN.out hno.out
    go_wp2
    go_ret
    exact⟨ret_int (by rw[HV.out];rfl),BE.out⟩
set_option maxRecDepth 100000 in
set_option maxHeartbeats 4000000 in
theorem rcompare_any (pv qv:Value) (p q:Prc) (w:World) (hpv:pv.oneCell'=true) (hqv:qv.oneCell'=true) :
  Calls Tryz.prog 57 #[.agg (prc (pv,p)).toArray,.agg (prc (qv,q)).toArray] w fun e w'=>e=.returned (.int .i64 (cmpP p q))∧Below w.heap.size w w':=by
 have HC:Hid (cmpP p q=if cmpS p.ap q.ap≠0 then cmpS p.ap q.ap else if p.kd<q.kd then -1 else if q.kd<p.kd then 1 else cmpS p.nm q.nm):=rfl
 have o1:=fun W=>rorder_any (sb p.ap) (sb q.ap) W
 have o2:=fun W=>rorder_any (sb p.nm) (sb q.nm) W
 rw[bl_sb,bl_sb] at o1 o2
 obtain⟨pap,pnm,pkd,ppa⟩:=p
 obtain⟨qap,qnm,qkd,qpa⟩:=q
 simp only at HC o1 o2
 obtain⟨R,hR⟩:∃R,cmpP ⟨pap,pnm,pkd,ppa⟩ ⟨qap,qnm,qkd,qpa⟩=R:=⟨_,rfl⟩
 rw[hR] at HC
 rw[hR]
 obtain⟨c1,hc1⟩:∃c,cmpS pap qap=c:=⟨_,rfl⟩
 obtain⟨c2,hc2⟩:∃c,cmpS pnm qnm=c:=⟨_,rfl⟩
 rw[hc1] at o1 HC
 rw[hc2] at o2 HC
 unfold prc
 simp only
 obtain⟨w0,hw0⟩:∃W,(w.alloc (.cells #[.string (sb pap),.string (sb pnm),.int .u8 (pkd:Int),pv] 57)).alloc (.cells #[.string (sb qap),.string (sb qnm),.int .u8 (qkd:Int),qv] 57)=W:=⟨_,rfl⟩
 have B0:Hid (Below w.heap.size w w0):=by rw[←hw0];exact((Below.refl _ _).alloc (Nat.le_refl _) _).alloc (by simp) _
 have X0:Hid (Bx w.heap.size #[.string (sb pap),.string (sb pnm),.int .u8 (pkd:Int),pv] 57 w0):=by rw[←hw0];exact(Bx.last w _ _).grow _
 have Y0:Hid (Bx (w.heap.size+1) #[.string (sb qap),.string (sb qnm),.int .u8 (qkd:Int),qv] 57 w0):=by rw[←hw0];exact Bx.last2 w _ _ _
 have HW:=Lib.hid hw0
 have x0:=X0.out.cell 0 (u:=.string (sb pap)) rfl
 have x1:=X0.out.cell 1 (u:=.string (sb pnm)) rfl
 have x2:=X0.out.cell 2 (u:=.int .u8 (pkd:Int)) rfl
 have y0:=Y0.out.cell 0 (u:=.string (sb qap)) rfl
 have y1:=Y0.out.cell 1 (u:=.string (sb qnm)) rfl
 have y2:=Y0.out.cell 2 (u:=.int .u8 (qkd:Int)) rfl
 have xl:=X0.out.lt
 have yl:=Y0.out.lt
 clear hR hc1 hc2 hw0
 go_enter Tryz.func57,Tryz.ntmps57
 go_upto_region 1 with fail
 rw[HW.out]
 clear HW
 go_wp2_with fail
 refine(o1 _).mono ?_
 rintro e w1 ⟨rfl,rfl⟩
 by_cases h1:c1=0
 rotate_left
 ·have HV:Hid (R=c1):=by unfold Hid;rw[HC.out,if_pos h1]
  have e1:(c1 != 0)=true:=bne_iff_ne.2 h1
  clear h1
  go_wp2
  go_ret
  exact⟨ret_int HV.out.symm,B0.out⟩
 subst h1
 rw[if_neg (by simp)] at HC
 rcases Nat.lt_trichotomy pkd qkd with h2|h2|h2
 ·have HV:Hid (R = -1):=by unfold Hid;rw[HC.out,if_pos h2]
  have e2:((pkd:Int) != (qkd:Int))=true:=bne_iff_ne.2 (by omega)
  have e3:(pkd:Int)<(qkd:Int):=by omega
  clear h2
  go_wp2
  go_ret
  exact⟨ret_int HV.out.symm,B0.out⟩
 ·have HV:Hid (R=c2):=by unfold Hid;rw[HC.out,if_neg (by omega),if_neg (by omega)]
  subst h2
  go_wp2_with fail
  refine(o2 _).mono ?_
  rintro e w1 ⟨rfl,rfl⟩
  go_wp2
  go_ret
  exact⟨ret_int HV.out.symm,B0.out⟩
 ·have HV:Hid (R=1):=by unfold Hid;rw[HC.out,if_neg (by omega),if_pos h2]
  have e2:((pkd:Int) != (qkd:Int))=true:=bne_iff_ne.2 (by omega)
  have e3:¬(pkd:Int)<(qkd:Int):=by omega
  clear h2
  go_wp2
  go_ret
  exact⟨ret_int HV.out.symm,B0.out⟩
end Go.Proofs.YtgmehlgfilpleaaGreatDoor
