/-
  Contracts: scaling (fixed.scale, to the nearest), and the point of a position in the plane around an origin: parts.
-/
import Derived.Test.YtgmehlgfilpleaaGreatDoorMG18
import Derived.Test.YtgmehlgfilpleaaGreatDoorMG02
import Derived.Test.YtgmehlgfilpleaaGreatDoorShelf2
namespace Go.Proofs.YtgmehlgfilpleaaGreatDoor
open Go.RowKit
set_option linter.unusedVariables false
set_option linter.unusedSimpArgs false
set_option maxRecDepth 100000 in
theorem size_any (a:Int) (w:World) (h : -9223372036854775807≤a∧a≤9223372036854775807):Calls Tryz.prog 218 #[.int .i64 a] w fun e w'=>e=.returned (.int .u64 (a.natAbs:Int))∧w=w':=by
 have HA:Hid ((0≤a→(a.natAbs:Int)=a)∧(a<0→(a.natAbs:Int) = -a)):=by unfold Hid;omega
 by_cases h0:a<0
 ·have e1:IntKind.u64.wrap a=a+18446744073709551616:=by rw[IntKind.wrap_u64];omega
  have e2:IntKind.u64.wrap (-(a+18446744073709551616)) = -a:=by rw[IntKind.wrap_u64];omega
  rw[HA.out.2 h0]
  go_enter Tryz.func218,Tryz.ntmps218
  go_wp2
  go_ret
  exact⟨by simp[e1,e2],rfl⟩
 ·have e1:IntKind.u64.wrap a=a:=by rw[IntKind.wrap_u64];omega
  rw[HA.out.1 (by omega)]
  go_enter Tryz.func218,Tryz.ntmps218
  go_wp2
  go_ret
  exact⟨by simp[e1],rfl⟩
def mdrZ (a b c:Int):Int:=(2*(a*b)+c)/(2*c)
theorem mdr_pos {a b c:Int} {q r:Nat} (hc:0<c) (hp:0≤a*b) (h:a*b=(q:Int)*c+r) (hr:(r:Int)<c):mdrZ a b c=if c≤2*(r:Int) then (q:Int)+1 else q:=by
 unfold mdrZ
 split
 ·rename_i h1
  rw[Int.ediv_eq_iff_of_pos (by omega)]
  constructor
  ·have:((q:Int)+1)*(2*c)=2*((q:Int)*c)+2*c:=by grind
   omega
  ·have:((q:Int)+1)*(2*c)=2*((q:Int)*c)+2*c:=by grind
   omega
 ·rename_i h1
  rw[Int.ediv_eq_iff_of_pos (by omega)]
  have:(q:Int)*(2*c)=2*((q:Int)*c):=by grind
  constructor <;> omega
theorem mdr_neg {a b c:Int} {q r:Nat} (hc:0<c) (h:a*b = -((q:Int)*c+r)) (hr:(r:Int)<c):mdrZ a b c=if c<2*(r:Int) then -((q:Int)+1) else -(q:Int):=by
 unfold mdrZ
 split
 ·rename_i h1
  rw[Int.ediv_eq_iff_of_pos (by omega)]
  have : -((q:Int)+1)*(2*c) = -(2*((q:Int)*c))-2*c:=by grind
  constructor <;> omega
 ·rename_i h1
  rw[Int.ediv_eq_iff_of_pos (by omega)]
  have : -(q:Int)*(2*c) = -(2*((q:Int)*c)):=by grind
  constructor <;> omega
def eastV (lo:Int):V3:=⟨-sinZ lo,cosZ lo,0⟩
def northV (la lo:Int):V3:=⟨-rnd (sinZ la*cosZ lo),-rnd (sinZ la*sinZ lo),cosZ la⟩
theorem neg_sq (x:Int) : -x * -x=x*x:=Int.neg_mul_neg x x
set_option maxRecDepth 100000 in
theorem east_ok (lo:Int):(eastV lo).Ok:=by
 have hs:=sinZ_bd lo
 have hc:=cosZ_bd lo
 have cb:=circ_bd lo
 have e:(eastV lo).sq=sinZ lo*sinZ lo+cosZ lo*cosZ lo:=by unfold V3.sq eastV;simp only;rw[neg_sq];omega
 refine⟨?_,?_,?_,by rw[e];omega,by rw[e];omega⟩
 ·simp only[eastV];omega
 ·simp only[eastV];omega
 ·simp only[eastV];omega
set_option maxRecDepth 100000 in
theorem north_ok (la lo:Int):(northV la lo).Ok:=by
 have hx:=prod_bd _ _ (sinZ_bd la) (cosZ_bd lo)
 have hy:=prod_bd _ _ (sinZ_bd la) (sinZ_bd lo)
 have r1:=rnd_sq (X:=sinZ la*cosZ lo) (by omega) (by omega)
 have r2:=rnd_sq (X:=sinZ la*sinZ lo) (by omega) (by omega)
 have cb:=circ_bd lo
 have ca:=circ_bd la
 have hc:=sq_nonneg (cosZ la)
 have hs:=sq_nonneg (sinZ la)
 have hp:sinZ la*cosZ lo*(sinZ la*cosZ lo)+sinZ la*sinZ lo*(sinZ la*sinZ lo)=sinZ la*sinZ la*(sinZ lo*sinZ lo+cosZ lo*cosZ lo):=by grind
 have hu:sinZ la*sinZ la*(sinZ lo*sinZ lo+cosZ lo*cosZ lo)≤sinZ la*sinZ la*1450000000000000000:=Int.mul_le_mul_of_nonneg_left cb.2 hs
 have hl:sinZ la*sinZ la*853000000000000000≤sinZ la*sinZ la*(sinZ lo*sinZ lo+cosZ lo*cosZ lo):=Int.mul_le_mul_of_nonneg_left cb.1 hs
 have u1:=rnd_unit hx.1 hx.2
 have u2:=rnd_unit hy.1 hy.2
 have hv:=vec_lin r1 r2 hp hu hl (S:=cosZ la*cosZ la) (by omega) hs hc
 have e:(northV la lo).sq=rnd (sinZ la*cosZ lo)*rnd (sinZ la*cosZ lo)+rnd (sinZ la*sinZ lo)*rnd (sinZ la*sinZ lo)+cosZ la*cosZ la:=by
  unfold V3.sq northV;simp only;rw[neg_sq,neg_sq]
 have hcb:=cosZ_bd la
 refine⟨?_,?_,?_,by rw[e];exact hv.1,by rw[e];exact hv.2⟩
 ·simp only[northV];omega
 ·simp only[northV];omega
 ·simp only[northV];omega
def locV (la lo ma mo:Int):V3:=⟨rnd ((eastV lo).dot (vecOf ma mo)),rnd ((northV la lo).dot (vecOf ma mo)),rnd ((vecOf la lo).dot (vecOf ma mo))⟩
set_option maxRecDepth 100000 in
theorem loc_bd (la lo ma mo:Int):(-1700000000≤(locV la lo ma mo).x∧(locV la lo ma mo).x≤1700000000)∧(-1700000000≤(locV la lo ma mo).y∧(locV la lo ma mo).y≤1700000000)∧(-1700000000≤(locV la lo ma mo).z∧(locV la lo ma mo).z≤1700000000):=by
 have h1:=pair_ok (east_ok lo) (vec_ok ma mo)
 have h2:=pair_ok (north_ok la lo) (vec_ok ma mo)
 have h3:=pair_ok (vec_ok la lo) (vec_ok ma mo)
 have a1:=h1.d1;have b1:=h1.d2;have a2:=h2.d1;have b2:=h2.d2;have a3:=h3.d1;have b3:=h3.d2
 unfold locV rnd
 simp only
 omega
def frV (la lo:Int):Value:=.agg #[.int .i64 (eastV lo).x,.int .i64 (eastV lo).y,.int .i64 (eastV lo).z,.int .i64 (northV la lo).x,.int .i64 (northV la lo).y,.int .i64 (northV la lo).z,.int .i64 (vecOf la lo).x,.int .i64 (vecOf la lo).y,.int .i64 (vecOf la lo).z]
set_option maxRecDepth 100000 in
set_option maxHeartbeats 8000000 in
theorem at_any (la lo:Int) (w:World) (h:vldB la lo=true) :
  Calls Tryz.prog 215 #[.agg #[.int .i64 la,.int .i64 lo]] w fun e w'=>e=.returned (frV la lo)∧Below w.heap.size w w':=by
 have hb:=vld_bd h
 have p1:=prod_bd _ _ (sinZ_bd la) (cosZ_bd lo)
 have p2:=prod_bd _ _ (sinZ_bd la) (sinZ_bd lo)
 have b1:=sinZ_bd lo
 have u1:=rnd_unit p1.1 p1.2
 have u2:=rnd_unit p2.1 p2.2
 have HV:Hid (frV la lo=.agg #[.int .i64 (-sinZ lo),.int .i64 (cosZ lo),.int .i64 0,.int .i64 (-rnd (sinZ la*cosZ lo)),.int .i64 (-rnd (sinZ la*sinZ lo)),.int .i64 (cosZ la),.int .i64 (vecOf la lo).x,.int .i64 (vecOf la lo).y,.int .i64 (vecOf la lo).z]):=by
  unfold Hid frV;simp only[eastV,northV]
 have t1:=fun w=>tSin_any la w (by omega) (by omega)
 have t2:=fun w=>tCos_any la w (by omega) (by omega)
 have t3:=fun w=>tSin_any lo w (by omega) (by omega)
 have t4:=fun w=>tCos_any lo w (by omega) (by omega)
 have r1:=fun w=>sround_any (sinZ la*cosZ lo) w (by omega) (by omega)
 have r2:=fun w=>sround_any (sinZ la*sinZ lo) w (by omega) (by omega)
 have o1:=fun w=>of_any la lo w h
 have hw1:IntKind.i64.wrap (sinZ la*cosZ lo)=sinZ la*cosZ lo:=by rw[IntKind.wrap_i64];omega
 have hw2:IntKind.i64.wrap (sinZ la*sinZ lo)=sinZ la*sinZ lo:=by rw[IntKind.wrap_i64];omega
 have hw3:IntKind.i64.wrap (-sinZ lo) = -sinZ lo:=by rw[IntKind.wrap_i64];omega
 have hw4:IntKind.i64.wrap (-rnd (sinZ la*cosZ lo)) = -rnd (sinZ la*cosZ lo):=by rw[IntKind.wrap_i64];omega
 have hw5:IntKind.i64.wrap (-rnd (sinZ la*sinZ lo)) = -rnd (sinZ la*sinZ lo):=by rw[IntKind.wrap_i64];omega
 rw[HV.out]
 obtain⟨v,hv⟩:∃v,vecOf la lo=v:=⟨_,rfl⟩
 rw[hv] at o1 ⊢
 obtain⟨vx,vy,vz⟩:=v
 unfold vcV at o1
 simp only at o1 ⊢
 obtain⟨n1,hn1⟩:∃c,rnd (sinZ la*cosZ lo)=c:=⟨_,rfl⟩
 obtain⟨n2,hn2⟩:∃c,rnd (sinZ la*sinZ lo)=c:=⟨_,rfl⟩
 rw[hn1] at r1 hw4 u1
 rw[hn2] at r2 hw5 u2
 rw[hn1,hn2]
 obtain⟨cl,hcl⟩:∃c,cosZ la=c:=⟨_,rfl⟩
 obtain⟨co,hco⟩:∃c,cosZ lo=c:=⟨_,rfl⟩
 obtain⟨sl,hsl⟩:∃c,sinZ la=c:=⟨_,rfl⟩
 obtain⟨so,hso⟩:∃c,sinZ lo=c:=⟨_,rfl⟩
 rw[hsl,hco] at p1 r1 hw1
 rw[hsl,hso] at p2 r2 hw2
 rw[hso] at b1 hw3
 rw[hsl] at t1
 rw[hcl] at t2
 rw[hso] at t3
 rw[hco] at t4
 rw[hcl,hco,hso]
 clear hcl hco hsl hso HV h hb hv hn1 hn2
 obtain⟨w0,hw0⟩:∃W,(w.alloc (.cells #[.int .i64 la,.int .i64 lo] 23)).alloc (.cells #[.int .i64 0,.int .i64 0,.int .i64 0,.int .i64 0,.int .i64 0,.int .i64 0,.int .i64 0,.int .i64 0,.int .i64 0] 273)=W:=⟨_,rfl⟩
 have B0:Hid (Below w.heap.size w w0):=by rw[←hw0];exact((Below.refl _ _).alloc (Nat.le_refl _) _).alloc (by simp) _
 have X0:Hid (Bx (w.heap.size+1) #[.int .i64 0,.int .i64 0,.int .i64 0,.int .i64 0,.int .i64 0,.int .i64 0,.int .i64 0,.int .i64 0,.int .i64 0] 273 w0):=by
  have h1:=Bx.last (w.alloc (.cells #[.int .i64 la,.int .i64 lo] 23)) #[.int .i64 0,.int .i64 0,.int .i64 0,.int .i64 0,.int .i64 0,.int .i64 0,.int .i64 0,.int .i64 0,.int .i64 0] 273
  rw[World.size_alloc,hw0] at h1
  exact h1
 have c0:w0.cell? ⟨w.heap.size,0,none⟩=some (.int .i64 la):=by rw[←hw0];simp[go_sem]
 have c1:w0.cell? ⟨w.heap.size,1,none⟩=some (.int .i64 lo):=by rw[←hw0];simp[go_sem]
 go_enter Tryz.func215,Tryz.ntmps215
 go_wp2_with fail
 try rw[hw0]
 clear hw0
 go_quiet (first|(go_at_call 292;exact Calls.quiet_of_same ((t1 _).mono fun e w' ⟨h1,h2⟩=>⟨h1,h2.symm⟩))|(go_at_call 293;exact Calls.quiet_of_same ((t2 _).mono fun e w' ⟨h1,h2⟩=>⟨h1,h2.symm⟩)))
 have B1:Hid (Below w.heap.size w (w0.drewN nq)):=below_drewN' B0.out nq
 have X1:Hid (Bx (w.heap.size+1) #[.int .i64 0,.int .i64 0,.int .i64 0,.int .i64 0,.int .i64 0,.int .i64 0,.int .i64 0,.int .i64 0,.int .i64 0] 273 (w0.drewN nq)):=X0.out
 have d0:(w0.drewN nq).cell? ⟨w.heap.size,0,none⟩=some (.int .i64 la):=c0
 have d1:(w0.drewN nq).cell? ⟨w.heap.size,1,none⟩=some (.int .i64 lo):=c1
 clear B0 X0 c0 c1
 obtain⟨w1,hw1⟩:∃W,w0.drewN nq=W:=⟨_,rfl⟩
 rw[hw1] at B1 X1 d0 d1 ⊢
 clear hw1
 go_wp2_with fail
 go_quiet (first|(go_at_call 292;exact Calls.quiet_of_same ((t3 _).mono fun e w' ⟨h1,h2⟩=>⟨h1,h2.symm⟩))|(go_at_call 293;exact Calls.quiet_of_same ((t4 _).mono fun e w' ⟨h1,h2⟩=>⟨h1,h2.symm⟩)))

 have B2:Hid (Below w.heap.size w (w1.drewN nq)):=below_drewN' B1.out nq
 have X2:Hid (Bx (w.heap.size+1) #[.int .i64 0,.int .i64 0,.int .i64 0,.int .i64 0,.int .i64 0,.int .i64 0,.int .i64 0,.int .i64 0,.int .i64 0] 273 (w1.drewN nq)):=X1.out
 have c0:(w1.drewN nq).cell? ⟨w.heap.size,0,none⟩=some (.int .i64 la):=d0
 have c1:(w1.drewN nq).cell? ⟨w.heap.size,1,none⟩=some (.int .i64 lo):=d1
 clear B1 X1 d0 d1
 obtain⟨w2,hw2⟩:∃W,w1.drewN nq=W:=⟨_,rfl⟩
 rw[hw2] at B2 X2 c0 c1 ⊢
 clear hw2
 have HFA:Hid (∀wa,Below w2.heap.size w2 wa→Hid (Bx (w.heap.size+1) #[.int .i64 0,.int .i64 0,.int .i64 0,.int .i64 0,.int .i64 0,.int .i64 0,.int .i64 0,.int .i64 0,.int .i64 0] 273 wa)∧Hid (Below w.heap.size w wa)):=fun wa hb=>⟨X2.out.via hb,Below.then_ B2.out hb⟩
 go_wp2_with fail
 clear t1 t2 t3 t4
 go_region_with (first
  | (go_at_call 294;(first|refine(r1 _).mono ?_|refine(r2 _).mono ?_);rintro e wa ⟨rfl,rfl⟩)
  | (go_at_call 216;refine(o1 _).mono ?_;rintro e wa ⟨rfl,hba⟩;have HXA:=HFA.out wa (Below.then_ (by repeat(first|exact Below.refl _ _|with_reducible refine Below.drew ?_|with_reducible refine below_drewN' ?_ _)) hba);clear hba;obtain⟨⟨x0,x1,x2,x3,x4,x5,x6,x7,x8⟩,y0,y1,y2,y3,y4,y5,y6,y7,y8⟩:=HXA.1.out.cells9))
 all_goals
  have hx9:=Bx.set9 HXA.1.out (.int .i64 (-so)) (.int .i64 co) (.int .i64 0) (.int .i64 (-n1)) (.int .i64 (-n2)) (.int .i64 cl) (.int .i64 vx) (.int .i64 vy) (.int .i64 vz)
  have HB9:=Lib.hid (bel_set9 HXA.2.out (show w.heap.size≤w.heap.size+1 by omega) (.int .i64 (-so)) (.int .i64 co) (.int .i64 0) (.int .i64 (-n1)) (.int .i64 (-n2)) (.int .i64 cl) (.int .i64 vx) (.int .i64 vy) (.int .i64 vz))
  generalize (((((((((wa.setCell ⟨w.heap.size+1,0,none⟩ (.int .i64 (-so))).setCell ⟨w.heap.size+1,1,none⟩ (.int .i64 co)).setCell ⟨w.heap.size+1,2,none⟩ (.int .i64 0)).setCell ⟨w.heap.size+1,3,none⟩ (.int .i64 (-n1))).setCell ⟨w.heap.size+1,4,none⟩ (.int .i64 (-n2))).setCell ⟨w.heap.size+1,5,none⟩ (.int .i64 cl)).setCell ⟨w.heap.size+1,6,none⟩ (.int .i64 vx)).setCell ⟨w.heap.size+1,7,none⟩ (.int .i64 vy)).setCell ⟨w.heap.size+1,8,none⟩ (.int .i64 vz))=W9 at hx9 HB9 ⊢
  obtain⟨⟨z0,z1,z2,z3,z4,z5,z6,z7,z8⟩,_⟩:=hx9.cells9
  go_wp2
  refine bodyPost_ret (by simp[results,Tryz.results215,go_sem,z0,z1,z2,z3,z4,z5,z6,z7,z8];try rfl) rfl ?_
  exact⟨rfl,HB9.out⟩
theorem fsigned_any (n:Nat) (ng:Bool) (w:World) (h:n≤4611686018427387904):Calls Tryz.prog 221 #[.int .u64 (n:Int),.bool ng] w fun e w'=>e=.returned (.tuple #[.int .i64 (if ng=true then -(n:Int) else (n:Int)),.int .i64 0])∧w=w':=by
 cases ng with
 | true =>
  rw[if_pos rfl]
  have e1:IntKind.i64.wrap (IntKind.u64.wrap (-(n:Int))) = -(n:Int):=by rw[IntKind.wrap_u64,IntKind.wrap_i64];omega
  have h1:(n:Int)≤9223372036854775808:=by omega
  go_enter Tryz.func221,Tryz.ntmps221
  go_wp2
  go_ret2
  exact⟨by simp[e1],rfl⟩
 | false =>
  rw[if_neg (by decide)]
  have e1:IntKind.i64.wrap (n:Int)=(n:Int):=by rw[IntKind.wrap_i64];omega
  have h1:(n:Int)<9223372036854775808:=by omega
  go_enter Tryz.func221,Tryz.ntmps221
  go_wp2
  go_ret2
  exact⟨by simp[e1],rfl⟩
set_option maxRecDepth 100000 in
set_option maxHeartbeats 4000000 in
theorem div64_any (n d:Nat) (w:World) (hd:0<d) (hn:n<9223372036854775808) (hd2:d<9223372036854775808):Calls Tryz.prog 220 #[.int .u64 0,.int .u64 (n:Int),.int .u64 (d:Int)] w fun e w'=>e=.returned (.tuple #[.int .u64 ((n/d:Nat):Int),.int .u64 ((n%d:Nat):Int)])∧Below w.heap.size w w':=by
 have h1:((d:Int) == 0)=false:=beq_eq_false_iff_ne.2 (by omega)
 have h2:¬(d:Int)≤0:=by omega
 have h3:((d:Int) != 0)=true:=bne_iff_ne.2 (by omega)
 have e1:IntKind.u64.wrap ((n:Int)/(d:Int))=((n/d:Nat):Int):=by
  have h:=Nat.div_le_self n d
  rw[IntKind.wrap_u64,show(n:Int)/(d:Int)=((n/d:Nat):Int) from rfl];generalize n/d=x at h ⊢;omega
 have e2:(n:Int)%(d:Int)=((n%d:Nat):Int):=rfl
 obtain⟨q,hq⟩:∃q,n/d=q:=⟨_,rfl⟩
 obtain⟨r,hr⟩:∃q,n%d=q:=⟨_,rfl⟩
 rw[hq] at e1 ⊢
 rw[hr] at e2 ⊢
 have E1:=Lib.hid e1
 have E2:=Lib.hid e2
 clear hq hr e1 e2
 go_enter Tryz.func220,Tryz.ntmps220
 go_wp2_with fail
 go_quiet (fail)
 go_wp2
 go_ret2
 exact⟨by simp[E1.out,E2.out],by first|exact Below.refl _ _|exact below_drewN' (Below.refl _ _) _⟩
set_option maxRecDepth 100000 in
set_option maxHeartbeats 4000000 in
theorem scale_near (A:Nat) (b:Int) (C:Nat) (w:World) (hA:A≤67108864) (hb1 : -1700000000≤b) (hb2:b≤1700000000) (hC:0<C) (hC2:C≤1700000000):Calls Tryz.prog 144 #[.int .i64 (A:Int),.int .i64 b,.int .i64 (C:Int),.int .u8 2] w fun e w'=>e=.returned (.tuple #[.int .i64 (mdrZ (A:Int) b (C:Int)),.int .i64 0])∧Below w.heap.size w w':=by
 have z1:=fun w=>size_any (C:Int) w (by omega)
 have z2:=fun w=>size_any (A:Int) w (by omega)
 have z3:=fun w=>size_any b w (by omega)
 rw[show((C:Int).natAbs:Int)=(C:Int) by omega] at z1
 rw[show((A:Int).natAbs:Int)=(A:Int) by omega] at z2
 obtain⟨m,hm⟩:∃m,b.natAbs=m:=⟨_,rfl⟩
 rw[hm] at z3
 have hml:m≤1700000000:=by omega
 have hP:A*m≤67108864*1700000000:=Nat.mul_le_mul hA hml
 have mu:=fun w=>Tryz.bits_Mul64 A m (by omega) (by omega) w
 obtain⟨p,hp⟩:∃p,A*m=p:=⟨_,rfl⟩
 rw[hp] at hP
 rw[hp,show p/18446744073709551616=0 by omega,show p%18446744073709551616=p by omega] at mu
 have dv:=fun w=>div64_any p C w hC (by omega) (by omega)
 have hqr:=Nat.div_add_mod p C
 have hrl:=Nat.mod_lt p hC
 have hqp:=Nat.div_le_self p C
 obtain⟨q,hq⟩:∃q,p/C=q:=⟨_,rfl⟩
 obtain⟨r,hr⟩:∃q,p%C=q:=⟨_,rfl⟩
 rw[hq] at hqr dv hqp
 rw[hr] at hqr hrl dv
 have hqr2:(A:Int)*(m:Int)=(q:Int)*(C:Int)+(r:Int):=by
  rw[←Int.natCast_mul,hp,←hqr,Int.natCast_add,Int.natCast_mul,Int.mul_comm]
 have hC0:((C:Int) == 0)=false:=beq_eq_false_iff_ne.2 (by omega)
 have hCn:¬(C:Int)<0:=by omega
 have hAn:¬(A:Int)<0:=by omega
 have hC3:¬(C:Int)≤0:=by omega
 have hqm:((q:Int) == 18446744073709551615)=false:=beq_eq_false_iff_ne.2 (by omega)
 have hrC:(r:Int)≤(C:Int):=by omega
 clear hq hr hqr hp
 by_cases hneg:b<0
 ·have HM:Hid (mdrZ (A:Int) b (C:Int)=if (C:Int)<2*(r:Int) then -((q:Int)+1) else -(q:Int)) :=
   mdr_neg (by omega) (by rw[show b = -(m:Int) by omega,Int.mul_neg,hqr2]) (by omega)
  have s1:=fun w=>fsigned_any q true w (by omega)
  have s2:=fun w=>fsigned_any (q+1) true w (by omega)
  rw[if_pos rfl] at s1 s2
  clear hqr2 hm
  by_cases h1:(C:Int)<2*(r:Int)
  ·have HV:Hid (mdrZ (A:Int) b (C:Int) = -((q+1:Nat):Int)):=by unfold Hid;rw[HM.out,if_pos h1];omega
   have t1:(C:Int)-(r:Int)<(r:Int):=by omega
   clear HM h1
   go_enter Tryz.func144,Tryz.ntmps144
   go_wp2_with fail
   refine(z1 _).mono ?_
   rintro e w' ⟨rfl,rfl⟩
   go_wp2_with fail
   refine(z2 _).mono ?_
   rintro e w' ⟨rfl,rfl⟩
   go_wp2_with fail
   refine(z3 _).mono ?_
   rintro e w' ⟨rfl,rfl⟩
   go_wp2_with fail
   refine(mu _).mono ?_
   rintro e w' ⟨rfl,rfl⟩
   go_wp2_with fail
   refine(dv _).mono ?_
   rintro e w1 ⟨rfl,hb1⟩
   go_wp2_with fail
   rw[show(q:Int)+1=((q+1:Nat):Int) by omega]
   refine(s2 _).mono ?_
   rintro e w' ⟨rfl,rfl⟩
   go_wp2
   go_ret2
   rw[HV.out]
   exact⟨rfl,hb1⟩
  ·have HV:Hid (mdrZ (A:Int) b (C:Int) = -(q:Int)):=by unfold Hid;rw[HM.out,if_neg h1]
   have t1:¬(C:Int)-(r:Int)<(r:Int):=by omega
   clear HM h1
   go_enter Tryz.func144,Tryz.ntmps144
   go_wp2_with fail
   refine(z1 _).mono ?_
   rintro e w' ⟨rfl,rfl⟩
   go_wp2_with fail
   refine(z2 _).mono ?_
   rintro e w' ⟨rfl,rfl⟩
   go_wp2_with fail
   refine(z3 _).mono ?_
   rintro e w' ⟨rfl,rfl⟩
   go_wp2_with fail
   refine(mu _).mono ?_
   rintro e w' ⟨rfl,rfl⟩
   go_wp2_with fail
   refine(dv _).mono ?_
   rintro e w1 ⟨rfl,hb1⟩
   go_wp2_with fail
   refine(s1 _).mono ?_
   rintro e w' ⟨rfl,rfl⟩
   go_wp2
   go_ret2
   rw[HV.out]
   exact⟨rfl,hb1⟩
 ·have HM:Hid (mdrZ (A:Int) b (C:Int)=if (C:Int)≤2*(r:Int) then (q:Int)+1 else (q:Int)) :=
   mdr_pos (by omega) (Int.mul_nonneg (by omega) (by omega)) (by rw[show b=(m:Int) by omega,hqr2]) (by omega)
  have s1:=fun w=>fsigned_any q false w (by omega)
  have s2:=fun w=>fsigned_any (q+1) false w (by omega)
  rw[if_neg (by decide)] at s1 s2
  clear hqr2 hm
  by_cases h1:(C:Int)≤2*(r:Int)
  ·have HV:Hid (mdrZ (A:Int) b (C:Int)=((q+1:Nat):Int)):=by unfold Hid;rw[HM.out,if_pos h1];omega
   clear HM
   by_cases h2:(C:Int)-(r:Int)<(r:Int)
   ·clear h1
    go_enter Tryz.func144,Tryz.ntmps144
    go_wp2_with fail
    refine(z1 _).mono ?_
    rintro e w' ⟨rfl,rfl⟩
    go_wp2_with fail
    refine(z2 _).mono ?_
    rintro e w' ⟨rfl,rfl⟩
    go_wp2_with fail
    refine(z3 _).mono ?_
    rintro e w' ⟨rfl,rfl⟩
    go_wp2_with fail
    refine(mu _).mono ?_
    rintro e w' ⟨rfl,rfl⟩
    go_wp2_with fail
    refine(dv _).mono ?_
    rintro e w1 ⟨rfl,hb1⟩
    go_wp2_with fail
    rw[show(q:Int)+1=((q+1:Nat):Int) by omega]
    refine(s2 _).mono ?_
    rintro e w' ⟨rfl,rfl⟩
    go_wp2
    go_ret2
    rw[HV.out]
    exact⟨rfl,hb1⟩
   ·have h3:((r:Int) == (C:Int)-(r:Int))=true:=by rw[beq_iff_eq];omega
    clear h1
    go_enter Tryz.func144,Tryz.ntmps144
    go_wp2_with fail
    refine(z1 _).mono ?_
    rintro e w' ⟨rfl,rfl⟩
    go_wp2_with fail
    refine(z2 _).mono ?_
    rintro e w' ⟨rfl,rfl⟩
    go_wp2_with fail
    refine(z3 _).mono ?_
    rintro e w' ⟨rfl,rfl⟩
    go_wp2_with fail
    refine(mu _).mono ?_
    rintro e w' ⟨rfl,rfl⟩
    go_wp2_with fail
    refine(dv _).mono ?_
    rintro e w1 ⟨rfl,hb1⟩
    go_wp2_with fail
    rw[show(q:Int)+1=((q+1:Nat):Int) by omega]
    refine(s2 _).mono ?_
    rintro e w' ⟨rfl,rfl⟩
    go_wp2
    go_ret2
    rw[HV.out]
    exact⟨rfl,hb1⟩
  ·have HV:Hid (mdrZ (A:Int) b (C:Int)=(q:Int)):=by unfold Hid;rw[HM.out,if_neg h1]
   have h2:¬(C:Int)-(r:Int)<(r:Int):=by omega
   have h3:((r:Int) == (C:Int)-(r:Int))=false:=by rw[beq_eq_false_iff_ne];omega
   clear HM h1
   go_enter Tryz.func144,Tryz.ntmps144
   go_wp2_with fail
   refine(z1 _).mono ?_
   rintro e w' ⟨rfl,rfl⟩
   go_wp2_with fail
   refine(z2 _).mono ?_
   rintro e w' ⟨rfl,rfl⟩
   go_wp2_with fail
   refine(z3 _).mono ?_
   rintro e w' ⟨rfl,rfl⟩
   go_wp2_with fail
   refine(mu _).mono ?_
   rintro e w' ⟨rfl,rfl⟩
   go_wp2_with fail
   refine(dv _).mono ?_
   rintro e w1 ⟨rfl,hb1⟩
   go_wp2_with fail
   refine(s1 _).mono ?_
   rintro e w' ⟨rfl,rfl⟩
   go_wp2
   go_ret2
   rw[HV.out]
   exact⟨rfl,hb1⟩
theorem mulDivRound_any (b:Int) (C:Nat) (w:World) (hb1 : -1700000000≤b) (hb2:b≤1700000000) (hC:0<C) (hC2:C≤1700000000):Calls Tryz.prog 62 #[.int .i64 20626481,.int .i64 b,.int .i64 (C:Int)] w fun e w'=>e=.returned (.tuple #[.int .i64 (mdrZ 20626481 b (C:Int)),.int .i64 0])∧Below w.heap.size w w':=by
 have sc:=fun w=>scale_near 20626481 b C w (by decide) hb1 hb2 hC hC2
 go_enter Tryz.func62,Tryz.ntmps62
 go_wp2_with fail
 refine(sc _).mono ?_
 rintro e w1 ⟨rfl,hb1⟩
 go_wp2
 go_ret2
 exact⟨rfl,hb1⟩
def orgB (la lo:Int):Bool:=vldB la lo&&(decide (-25200000≤la)&&decide (la≤25200000))
def pntB (x y:Int):Bool:=decide (-2000000≤x)&&decide (x≤2000000)&&(decide (-2000000≤y)&&decide (y≤2000000))
set_option maxRecDepth 100000 in
set_option maxHeartbeats 1000000 in
theorem isOrigin_any (la lo:Int) (w:World):Calls Tryz.prog 59 #[.agg #[.int .i64 la,.int .i64 lo]] w fun e w'=>e=.returned (.bool (orgB la lo))∧Below w.heap.size w w':=by
 have hv:=fun w=>sValid_any la lo w
 have HO:Hid (orgB la lo=(vldB la lo&&(decide (-25200000≤la)&&decide (la≤25200000)))):=rfl
 obtain⟨vb,hvb⟩:∃v,vldB la lo=v:=⟨_,rfl⟩
 rw[hvb] at hv HO
 clear hvb
 obtain⟨w0,hw0⟩:∃W,w.alloc (.cells #[.int .i64 la,.int .i64 lo] 23)=W:=⟨_,rfl⟩
 have B0:Hid (Below w.heap.size w w0):=by rw[←hw0];exact(Below.refl _ _).alloc (Nat.le_refl _) _
 have c0:w0.cell? ⟨w.heap.size,0,none⟩=some (.int .i64 la):=by rw[←hw0];simp[go_sem]
 have c1:w0.cell? ⟨w.heap.size,1,none⟩=some (.int .i64 lo):=by rw[←hw0];simp[go_sem]
 have lt:w.heap.size<w0.heap.size:=by rw[←hw0];simp
 go_enter Tryz.func59,Tryz.ntmps59
 go_wp2_with fail
 try rw[hw0]
 clear hw0
 refine(hv _).mono ?_
 rintro e w1 ⟨rfl,hb1⟩
 have B1:=Lib.hid (Below.then_ B0.out hb1)
 have d0:=(hb1.cell (p:=⟨w.heap.size,0,none⟩) lt).trans c0
 have d1:=(hb1.cell (p:=⟨w.heap.size,1,none⟩) lt).trans c1
 clear hb1 c0 c1 B0 hv
 cases vb with
 | false =>
  go_wp2
  go_ret
  exact⟨ret_bool (by rw[HO.out];rfl),B1.out⟩
 | true =>
  by_cases h1 : -25200000≤la
  ·by_cases h2:la≤25200000
   ·go_wp2
    go_ret
    exact⟨ret_bool (by rw[HO.out];first|(simp;done)|(simp;omega)),B1.out⟩
   ·go_wp2
    go_ret
    exact⟨ret_bool (by rw[HO.out];first|(simp;done)|(simp;omega)),B1.out⟩
  ·go_wp2
   go_ret
   exact⟨ret_bool (by rw[HO.out];first|(simp;done)|(simp;omega)),B1.out⟩
theorem planeValid_any (x y:Int) (w:World):Calls Tryz.prog 63 #[.agg #[.int .i64 x,.int .i64 y]] w fun e w'=>e=.returned (.bool (pntB x y))∧Below w.heap.size w w':=by
 have HO:Hid (pntB x y=(decide (-2000000≤x)&&decide (x≤2000000)&&(decide (-2000000≤y)&&decide (y≤2000000)))):=rfl
 by_cases h1 : -2000000≤x
 ·by_cases h2:x≤2000000
  ·by_cases h3 : -2000000≤y
   ·by_cases h4:y≤2000000
    ·go_enter Tryz.func63,Tryz.ntmps63
     go_wp2
     go_ret
     exact⟨ret_bool (by rw[HO.out];first|(simp;done)|(simp;omega)),(Below.refl _ _).alloc (Nat.le_refl _) _⟩
    ·go_enter Tryz.func63,Tryz.ntmps63
     go_wp2
     go_ret
     exact⟨ret_bool (by rw[HO.out];first|(simp;done)|(simp;omega)),(Below.refl _ _).alloc (Nat.le_refl _) _⟩
   ·go_enter Tryz.func63,Tryz.ntmps63
    go_wp2
    go_ret
    exact⟨ret_bool (by rw[HO.out];first|(simp;done)|(simp;omega)),(Below.refl _ _).alloc (Nat.le_refl _) _⟩
  ·go_enter Tryz.func63,Tryz.ntmps63
   go_wp2
   go_ret
   exact⟨ret_bool (by rw[HO.out];first|(simp;done)|(simp;omega)),(Below.refl _ _).alloc (Nat.le_refl _) _⟩
 ·go_enter Tryz.func63,Tryz.ntmps63
  go_wp2
  go_ret
  exact⟨ret_bool (by rw[HO.out];first|(simp;done)|(simp;omega)),(Below.refl _ _).alloc (Nat.le_refl _) _⟩
end Go.Proofs.YtgmehlgfilpleaaGreatDoor
