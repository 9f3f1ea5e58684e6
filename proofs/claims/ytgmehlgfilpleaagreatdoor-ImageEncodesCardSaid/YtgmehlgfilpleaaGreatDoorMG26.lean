/-
  Several texts as one.
-/
import Derived.Test.YtgmehlgfilpleaaGreatDoorBase
import Derived.Laws.BitsAllLaws
import Derived.Deep.DeepCutAuto
namespace Go.Proofs.YtgmehlgfilpleaaGreatDoor
open Go.RowKit
set_option linter.unusedVariables false
set_option linter.unusedSimpArgs false
set_option maxRecDepth 100000 in
theorem rsize_any (a:Int) (w:World) (h : -9223372036854775807≤a∧a≤9223372036854775807):Calls Tryz.prog 284 #[.int .i64 a] w fun e w'=>e=.returned (.int .u64 (a.natAbs:Int))∧w=w':=by
 by_cases h0:a<0
 ·obtain⟨n,hn⟩:∃n:Nat,a = -((n:Int)+1):=⟨(-a-1).toNat,by omega⟩
  subst hn
  have HX:Hid (((-((n:Int)+1)).natAbs:Int)=(n:Int)+1):=by unfold Hid;omega
  have hb:n<9223372036854775807:=by omega
  have e1 : -((n:Int)+1)+1 = -(n:Int):=by omega
  have e2 : - -(n:Int)=(n:Int):=by omega
  clear h
  go_enter Tryz.func284,Tryz.ntmps284
  go_wp2
  go_ret
  exact⟨ret_int (by rw[HX.out]),rfl⟩
 ·obtain⟨n,hn⟩:∃n:Nat,a=(n:Int):=⟨a.toNat,by omega⟩
  subst hn
  have HX:Hid ((((n:Int)).natAbs:Int)=(n:Int)):=by unfold Hid;omega
  have hb:n≤9223372036854775807:=by omega
  have h3:¬(n:Int)<0:=by omega
  clear h
  go_enter Tryz.func284,Tryz.ntmps284
  go_wp2
  go_ret
  exact⟨rfl,rfl⟩
theorem div_start (A:Nat):0*340282366920938463463374607431768211456+(0*18446744073709551616+A)=A*2^0:=by simp
theorem div_gen {P b h0 c l0 H:Nat}:(2*P+b)*((2*H)*(2*H))+((2*h0+c)*(2*H)+2*l0)=2*(P*((2*H)*(2*H))+((H*b+h0)*(2*H)+(H*c+l0))):=by grind
theorem div_step {A k P hi lo:Nat} (h:P*340282366920938463463374607431768211456+(hi*18446744073709551616+lo)=A*2^k) :
  (2*P+hi/9223372036854775808)*340282366920938463463374607431768211456+((2*hi%18446744073709551616+lo/9223372036854775808)*18446744073709551616+2*lo%18446744073709551616)=A*2^(k+1):=by
 have g:=@div_gen P (hi/9223372036854775808) (hi%9223372036854775808) (lo/9223372036854775808) (lo%9223372036854775808) 9223372036854775808
 rw[Nat.div_add_mod,Nat.div_add_mod,show(2*9223372036854775808)*(2*9223372036854775808)=340282366920938463463374607431768211456 by decide,show 2*9223372036854775808=18446744073709551616 by decide,h] at g
 rw[show 2*hi%18446744073709551616=2*(hi%9223372036854775808) from Nat.mul_mod_mul_left 2 hi 9223372036854775808,show 2*lo%18446744073709551616=2*(lo%9223372036854775808) from Nat.mul_mod_mul_left 2 lo 9223372036854775808,g,Nat.pow_succ];grind
theorem div_most {A k P X:Nat} (h:P*340282366920938463463374607431768211456+X=A*2^k) (hk:k≤128):P≤A:=by
 have h1:A*2^k≤A*2^128:=Nat.mul_le_mul_left _ (Nat.pow_le_pow_right (by omega) hk)
 have h2:(2:Nat)^128=340282366920938463463374607431768211456:=by decide
 rw[h2] at h1
 omega
theorem div_end {A P hi lo:Nat} (h:P*340282366920938463463374607431768211456+(hi*18446744073709551616+lo)=A*2^128) (h1:hi<18446744073709551616) (h2:lo<18446744073709551616):P=A:=by
 have h3:(2:Nat)^128=340282366920938463463374607431768211456:=by decide
 rw[h3] at h
 omega
theorem div_yes {P q C r b:Nat} (h:P=q*C+r) (hc:C≤2*r+b):2*P+b=(2*q+1)*C+(2*r+b-C):=by
 have:(2*q+1)*C=2*(q*C)+C:=by rw[Nat.add_mul,Nat.one_mul,Nat.mul_assoc]
 rw[this];omega
theorem div_no {P q C r b:Nat} (h:P=q*C+r):2*P+b=(2*q)*C+(2*r+b):=by
 have:2*q*C=2*(q*C):=Nat.mul_assoc _ _ _
 rw[this];omega
theorem div_q {P q C r:Nat} (h:P=q*C+r) (hc:0<C):q≤P:=by
 have:=Nat.le_mul_of_pos_right q hc
 omega
theorem or_bit {a b:Nat} (ha:a%2=0) (hb:b≤1) (h:a<18446744073709551616):bits .or .u64 (a:Int) (b:Int)=((a+b:Nat):Int):=by
 rw[u64_or_nat a b h (by omega),nat_join 1 a b (by omega) (by omega)]
set_option maxRecDepth 100000 in
set_option maxHeartbeats 4000000 in
theorem rproduct_any (A:Nat) (w:World) (hA:A<9223372036854775808):Calls Tryz.prog 283 #[.int .u64 (A:Int),.int .u64 1] w fun e w'=>e=.returned (.tuple #[.int .u64 0,.int .u64 (A:Int)])∧w=w':=by
 have hand:∀x:Nat,x<18446744073709551616→bits .and .u64 (x:Int) 4294967295=((x%4294967296:Nat):Int):=fun x hx=>by
  have:=u64_and_nat x 4294967295 hx (by omega)
  rw[show(4294967295:Nat)=2^32-1 by decide,Nat.and_two_pow_sub_one_eq_mod] at this
  exact this
 have e1:bits .and .u64 (A:Int) 4294967295=((A%4294967296:Nat):Int):=hand A (by omega)
 have e2:bits .and .u64 1 4294967295=1:=by decide +kernel
 obtain⟨a0,h0⟩:∃a,A%4294967296=a:=⟨_,rfl⟩
 obtain⟨a1,h1⟩:∃a,A/4294967296=a:=⟨_,rfl⟩
 rw[h0] at e1
 have e3:(A:Int)/4294967296=(a1:Int):=by rw[←h1];omega
 have b0:a0<4294967296:=by omega
 have b1:a1<4294967296:=by omega
 have e4:bits .and .u64 (a1:Int) 4294967295=(a1:Int):=by rw[hand a1 (by omega),Nat.mod_eq_of_lt b1]
 have e5:bits .and .u64 (a0:Int) 4294967295=(a0:Int):=by rw[hand a0 (by omega),Nat.mod_eq_of_lt b0]
 have e6:(a0:Int)/4294967296=0:=by omega
 have e7:(a1:Int)/4294967296=0:=by omega
 have e8:bits .or .u64 ((a1:Int)*4294967296) (a0:Int)=(A:Int):=by
  have:=u64_or_nat (a1*4294967296) a0 (by omega) (by omega)
  rw[nat_join 32 _ _ (by omega) (by omega)] at this
  rw[show((a1:Int)*4294967296)=((a1*4294967296:Nat):Int) by omega,this];omega
 clear hand h0 h1
 go_enter Tryz.func283,Tryz.ntmps283
 go_wp2
 go_ret2
 exact⟨rfl,rfl⟩
set_option maxRecDepth 100000 in
set_option maxHeartbeats 4000000 in
theorem rdivide_any (A C:Nat) (w:World) (hA:A<9223372036854775808) (hC:0<C) (hC2:C<2147483648):Calls Tryz.prog 285 #[.int .u64 0,.int .u64 (A:Int),.int .u64 (C:Int)] w fun e w'=>e=.returned (.tuple #[.int .u64 0,.int .u64 ((A/C:Nat):Int),.int .u64 ((A%C:Nat):Int)])∧w=w':=by
 obtain⟨Q0,hQ0⟩:∃x,A/C=x:=⟨_,rfl⟩
 obtain⟨R0,hR0⟩:∃x,A%C=x:=⟨_,rfl⟩
 have HQ0:=Lib.hid hQ0
 have HR0:=Lib.hid hR0
 rw[hQ0,hR0]
 clear hQ0 hR0
 go_enter Tryz.func285,Tryz.ntmps285
 go_wp2_with fail
 go_loopw [0,1,6,7,8,9] (fun hv lv qhv qlv rv iv wr=>∃k hi lo P q r:Nat,k≤128∧hi<18446744073709551616∧lo<18446744073709551616∧r<C∧q≤A∧hv=.int .u64 (hi:Int)∧lv=.int .u64 (lo:Int)∧qhv=.int .u64 0∧qlv=.int .u64 (q:Int)∧rv=.int .u64 (r:Int)∧iv=.int .i64 (k:Int) ∧
   Hid (P*340282366920938463463374607431768211456+(hi*18446744073709551616+lo)=A*2^k)∧Hid (P=q*C+r)∧Hid (w=wr)) (fun _ _ _ _ _ iv _=>128-(intOf iv).toNat)
 case atStart=>exact⟨0,0,A,0,0,0,by omega,by omega,by omega,hC,Nat.zero_le _,rfl,rfl,rfl,rfl,rfl,rfl,div_start A,by simp[Hid],rfl⟩
 case round =>
  obtain⟨k,hi,lo,P,q,r,hk,hhi,hlo,hr,hq,rfl,rfl,rfl,rfl,rfl,rfl,hP,hQ,hw⟩:=hrel
  by_cases hlt:k<128
  ·have hki:(k:Int)<128:=by omega
   have HS:=Lib.hid (div_step hP.out)
   have HM:=div_most HS.out (by omega)
   obtain⟨b,hb⟩:∃b,hi/9223372036854775808=b:=⟨_,rfl⟩
   obtain⟨c,hc⟩:∃c,lo/9223372036854775808=c:=⟨_,rfl⟩
   obtain⟨hi2,hh2⟩:∃x,2*hi%18446744073709551616=x:=⟨_,rfl⟩
   obtain⟨lo2,hl2⟩:∃x,2*lo%18446744073709551616=x:=⟨_,rfl⟩
   rw[hb,hc,hh2,hl2] at HS
   rw[hb] at HM
   have e1:(hi:Int)/9223372036854775808=(b:Int):=by omega
   have e2:(lo:Int)/9223372036854775808=(c:Int):=by omega
   have e3:(r:Int)/9223372036854775808=0:=by omega
   have e4:(q:Int)/9223372036854775808=0:=by omega
   have bb:b≤1:=by omega
   have bc:c≤1:=by omega
   have o1:bits .or .u64 ((r:Int)*2) (b:Int)=((2*r+b:Nat):Int):=by
    have:=or_bit (a:=2*r) (b:=b) (by omega) bb (by omega)
    rw[show((r:Int)*2)=((2*r:Nat):Int) by omega,this]
   have o2:bits .or .u64 (hi2:Int) (c:Int)=((hi2+c:Nat):Int):=or_bit (by omega) bc (by omega)
   have o3:bits .or .u64 0 0=0:=by decide +kernel
   have o4:bits .or .u64 ((q:Int)*2) 1=((2*q+1:Nat):Int):=by
    have:=or_bit (a:=2*q) (b:=1) (by omega) (by omega) (by omega)
    rw[show((q:Int)*2)=((2*q:Nat):Int) by omega];exact this
   have w1:IntKind.u64.wrap ((hi:Int)*2)=(hi2:Int):=by rw[IntKind.wrap_u64];omega
   have w2:IntKind.u64.wrap ((lo:Int)*2)=(lo2:Int):=by rw[IntKind.wrap_u64];omega
   have hq0:q≤P:=div_q hQ.out hC
   have g1:(2*q+1:Nat)≤2*A+1:=by omega
   by_cases hge:C≤2*r+b
   ·have h1:(C:Int)≤((2*r+b:Nat):Int):=by omega
    have hq3:2*q+1≤A:=by
     have h9:=div_yes (b:=b) hQ.out hge
     have:=div_q h9 hC
     omega
    have HQ:Hid (2*P+b=(2*q+1)*C+(2*r+b-C)):=div_yes hQ.out hge
    have HR:Hid ((((2*r+b:Nat):Int)-(C:Int))=((2*r+b-C:Nat):Int)):=by unfold Hid;omega
    have hr3:2*r+b-C<C:=by omega
    obtain⟨r2,hr2⟩:∃x,2*r+b=x:=⟨_,rfl⟩
    rw[hr2] at o1 h1 HQ HR hr3
    have hr2b:r2<4294967296:=by omega
    have hx1:hi2+c<18446744073709551616:=by omega
    have hx2:lo2<18446744073709551616:=by omega
    clear hb hc hh2 hl2 hr2 hge hq0 g1
    go_wp2
    rw[HR.out]
    go_roundw
    case rel=>exact⟨k+1,hi2+c,lo2,2*P+b,2*q+1,r2-C,by omega,hx1,hx2,hr3,hq3,rfl,rfl,rfl,rfl,rfl,by go_num,HS,HQ,hw⟩
    case measure=>simp[intOf];omega
   ·have h1:¬(C:Int)≤((2*r+b:Nat):Int):=by omega
    have HQ:Hid (2*P+b=(2*q)*C+(2*r+b)):=div_no hQ.out
    have hr3:2*r+b<C:=by omega
    have hq3:2*q≤A:=by omega
    obtain⟨r2,hr2⟩:∃x,2*r+b=x:=⟨_,rfl⟩
    rw[hr2] at o1 h1 HQ hr3
    have hx1:hi2+c<18446744073709551616:=by omega
    have hx2:lo2<18446744073709551616:=by omega
    clear hb hc hh2 hl2 hr2 hge hq0 g1
    go_wp2
    go_roundw
    case rel=>exact⟨k+1,hi2+c,lo2,2*P+b,2*q,r2,by omega,hx1,hx2,hr3,hq3,rfl,rfl,rfl,(by show Value.int .u64 _=.int .u64 _;congr 1;omega),rfl,by go_num,HS,HQ,hw⟩
    case measure=>simp[intOf];omega
  ·have hki:¬(k:Int)<128:=by omega
   obtain rfl:k=128:=by omega
   have hPA:=div_end hP.out hhi hlo
   subst hPA
   have hA1:P/C=q:=by
    rw[hQ.out,Nat.mul_comm,Nat.mul_add_div hC,Nat.div_eq_of_lt hr,Nat.add_zero]
   have hA2:P%C=r:=by
    rw[hQ.out,Nat.mul_comm,Nat.mul_add_mod,Nat.mod_eq_of_lt hr]
   have hB1:=HQ0.out
   have hB2:=HR0.out
   rw[hA1] at hB1
   rw[hA2] at hB2
   subst hB1
   subst hB2
   clear hA1 hA2 HQ0 HR0
   go_wp2
   go_ret3
   exact⟨rfl,hw.out⟩
theorem xor_max (q:Nat) (h:q<18446744073709551616):18446744073709551615 ^^^ q=18446744073709551615-q:=by
 have h2:q ^^^ (2^64-1)=2^64-1-q:=by
  apply Nat.eq_of_testBit_eq
  intro i
  rw[Nat.testBit_xor,Nat.testBit_two_pow_sub_one,Nat.sub_sub,Nat.add_comm 1 q,Nat.testBit_two_pow_sub_succ (show q<2^64 from h)]
  by_cases hi:i<64
  ·simp[hi]
  ·have:q.testBit i=false:=Nat.testBit_lt_two_pow (Nat.lt_of_lt_of_le (show q<2^64 from h) (Nat.pow_le_pow_right (by omega) (show 64≤i by omega)))
   simp[hi,this]
 rw[Nat.xor_comm];exact h2
theorem neg_bits (q:Nat) (h:q≤4611686018427387905):wrap64 (IntKind.u64.wrap (bits .xor .u64 IntKind.u64.max (q:Int)+1)) = -(q:Int):=by
 have h1:bits .xor .u64 IntKind.u64.max (q:Int)=((18446744073709551615-q:Nat):Int):=by
  have:=u64_xor_nat 18446744073709551615 q (by omega) (by omega)
  rw[xor_max q (by omega)] at this
  exact this
 rw[h1,IntKind.wrap_u64]
 unfold wrap64
 omega
def rdZ (p:Int) (C:Nat):Int :=
 if p<0 then (if C<2*(p.natAbs%C) then -(((p.natAbs/C:Nat):Int)+1) else -((p.natAbs/C:Nat):Int)) else if C≤2*(p.natAbs%C) then ((p.natAbs/C:Nat):Int)+1 else ((p.natAbs/C:Nat):Int)
set_option maxRecDepth 100000 in
set_option maxHeartbeats 8000000 in
theorem rquotient_any (p:Int) (C:Nat) (w:World) (h1 : -4611686018427387904≤p) (h2:p≤4611686018427387904) (hC:0<C) (hC2:C<2147483648) :
  Calls Tryz.prog 211 #[.int .i64 p,.int .i64 1,.int .i64 (C:Int),.int .i64 2] w fun e w'=>e=.returned (.tuple #[.int .i64 (rdZ p C),.int .i64 0])∧w=w':=by
 obtain⟨A,hA⟩:∃A,p.natAbs=A:=⟨_,rfl⟩
 have hAb:A≤4611686018427387904:=by omega
 obtain⟨q,hq⟩:∃q,A/C=q:=⟨_,rfl⟩
 obtain⟨r,hr⟩:∃r,A%C=r:=⟨_,rfl⟩
 have hrl:r<C:=by rw[←hr];exact Nat.mod_lt _ hC
 have hqr:A=q*C+r:=by rw[←hq,←hr,Nat.mul_comm];exact(Nat.div_add_mod A C).symm
 have hqA:q≤A:=by rw[←hq];exact Nat.div_le_self _ _
 have sz1:=fun w=>rsize_any p w (by omega)
 have sz2:=fun w=>rsize_any 1 w (by omega)
 have sz3:=fun w=>rsize_any (C:Int) w (by omega)
 rw[hA] at sz1
 have pr:=fun w=>rproduct_any A w (by omega)
 have dv:=fun w=>rdivide_any A C w (by omega) hC hC2
 rw[hq,hr] at dv
 obtain⟨s,hs⟩:∃s,C-r=s:=⟨_,rfl⟩
 have es:(C:Int)-(r:Int)=(s:Int):=by omega
 have ec:((C:Int) == 0)=false:=beq_eq_false_iff_ne.2 (by omega)
 have ec2:¬(C:Int)<0:=by omega
 have HQR:=Lib.hid hqr
 have HA:=Lib.hid hA
 have HCS:Hid (C=r+s):=by unfold Hid;omega
 have HC:=Lib.hid hC
 have HRL:=Lib.hid hrl
 have hqb:(q:Int)≤4611686018427387904:=by omega
 have hrb:(r:Int)<2147483648:=by omega
 have hsb:(s:Int)<2147483648:=by omega
 have hAb2:(A:Int)≤4611686018427387904:=by omega
 have HM:Hid (0<s):=by unfold Hid;omega
 obtain⟨Z,hZ⟩:∃Z,rdZ p C=Z:=⟨_,rfl⟩
 have HZP:Hid (0≤p→Z=if C≤2*r then (q:Int)+1 else q):=fun h=>by rw[←hZ];unfold rdZ;rw[if_neg (by omega),hA,hq,hr]
 have HZN:Hid (p<0→Z=if C<2*r then -((q:Int)+1) else -(q:Int)):=fun h=>by rw[←hZ];unfold rdZ;rw[if_pos h,hA,hq,hr]
 rw[hZ]
 clear hZ hq hr hqr hs hA hqA hrl hAb
 have hr0:True:=trivial
 by_cases h0:p<0
 ·have HZ:=Lib.hid (HZN.out h0)
  clear HZN HZP
  go_enter Tryz.func211,Tryz.ntmps211
  go_wp2_with fail
  refine(sz1 _).mono ?_
  rintro e w1 ⟨rfl,rfl⟩
  go_wp2_with fail
  refine(sz2 _).mono ?_
  rintro e w1 ⟨rfl,rfl⟩
  go_wp2_with fail
  refine(pr _).mono ?_
  rintro e w1 ⟨rfl,rfl⟩
  go_wp2_with fail
  refine(sz3 _).mono ?_
  rintro e w1 ⟨rfl,rfl⟩
  go_wp2_with fail
  refine(dv _).mono ?_
  rintro e w1 ⟨rfl,rfl⟩
  go_wp2_with fail
  refine(sz3 _).mono ?_
  rintro e w1 ⟨rfl,rfl⟩
  have d0:=hr0
  rcases Nat.lt_trichotomy s r with hsr|hsr|hsr
  ·have d1:decide (s<r)=true:=decide_eq_true hsr
   have HZ2:Hid (Z = -((q:Int)+1)):=by unfold Hid;rw[HZ.out,if_pos (by have:=HCS.out;omega)]
   obtain⟨Q,hQ⟩:∃Q,q+1=Q:=⟨_,rfl⟩
   have HQ:=Lib.hid hQ
   have es1:(q:Int)+1=(Q:Int):=by omega
   have d3:decide ((9223372036854775808:Int)<(Q:Int))=false:=decide_eq_false (by omega)
   have d3':decide (9223372036854775808<Q)=false:=decide_eq_false (by omega)
   have d4:((Q:Int) == 9223372036854775808)=false:=beq_eq_false_iff_ne.2 (by omega)
   have ew:IntKind.u64.wrap (Q:Int)=(Q:Int):=by rw[IntKind.wrap_u64];omega
   have d5:((Q:Int) == 0)=false:=beq_eq_false_iff_ne.2 (by omega)
   have HF:Hid (wrap64 (IntKind.u64.wrap (bits .xor .u64 IntKind.u64.max (Q:Int)+1))=Z):=by unfold Hid;rw[neg_bits Q (by omega),HZ2.out];omega
   clear hsr h1 h2 hC hC2 ec ec2 h0 sz1 sz2 sz3 pr dv HZ hr0
   go_upto_region 13 with fail
   clear es hqb hrb hsb hAb2
   clear hQ
   go_wp2
   go_ret2
   exact⟨by first|(rw[HF.out];rfl)|(rw[HF.out.1];rfl)|(rw[HF.out.2];rfl)|rfl,rfl⟩
  ·have d1:decide (s<r)=false:=decide_eq_false (by omega)
   have d2:((r:Int) == (s:Int))=true:=by rw[beq_iff_eq];omega
   have HZ2:Hid (Z = -(q:Int)):=by unfold Hid;rw[HZ.out,if_neg (by have:=HCS.out;omega)]
   obtain⟨Q,hQ⟩:∃Q,q=Q:=⟨_,rfl⟩
   have HQ:=Lib.hid hQ
   have d3:decide ((9223372036854775808:Int)<(Q:Int))=false:=decide_eq_false (by omega)
   have d3':decide (9223372036854775808<Q)=false:=decide_eq_false (by omega)
   have d4:((Q:Int) == 9223372036854775808)=false:=beq_eq_false_iff_ne.2 (by omega)
   have ew:IntKind.u64.wrap (Q:Int)=(Q:Int):=by rw[IntKind.wrap_u64];omega
   subst hQ
   have HF:Hid (wrap64 (IntKind.u64.wrap (bits .xor .u64 IntKind.u64.max (q:Int)+1))=Z):=by unfold Hid;rw[neg_bits q (by omega),HZ2.out]
   clear hsr h1 h2 hC hC2 ec ec2 h0 sz1 sz2 sz3 pr dv HZ hr0
   go_upto_region 13 with fail
   clear es hqb hrb hsb hAb2
   go_wp2
   go_ret2
   exact⟨by first|(rw[HF.out];rfl)|(rw[HF.out.1];rfl)|(rw[HF.out.2];rfl)|rfl,rfl⟩
  ·have d1:decide (s<r)=false:=decide_eq_false (by omega)
   have d2:((r:Int) == (s:Int))=false:=beq_eq_false_iff_ne.2 (by omega)
   have HZ2:Hid (Z = -(q:Int)):=by unfold Hid;rw[HZ.out,if_neg (by have:=HCS.out;omega)]
   obtain⟨Q,hQ⟩:∃Q,q=Q:=⟨_,rfl⟩
   have HQ:=Lib.hid hQ
   have d3:decide ((9223372036854775808:Int)<(Q:Int))=false:=decide_eq_false (by omega)
   have d3':decide (9223372036854775808<Q)=false:=decide_eq_false (by omega)
   have d4:((Q:Int) == 9223372036854775808)=false:=beq_eq_false_iff_ne.2 (by omega)
   have ew:IntKind.u64.wrap (Q:Int)=(Q:Int):=by rw[IntKind.wrap_u64];omega
   subst hQ
   have HF:Hid (wrap64 (IntKind.u64.wrap (bits .xor .u64 IntKind.u64.max (q:Int)+1))=Z):=by unfold Hid;rw[neg_bits q (by omega),HZ2.out]
   clear hsr h1 h2 hC hC2 ec ec2 h0 sz1 sz2 sz3 pr dv HZ hr0
   go_upto_region 13 with fail
   clear es hqb hrb hsb hAb2
   go_wp2
   go_ret2
   exact⟨by first|(rw[HF.out];rfl)|(rw[HF.out.1];rfl)|(rw[HF.out.2];rfl)|rfl,rfl⟩
 ·have HZ:=Lib.hid (HZP.out (by omega))
  clear HZN HZP
  go_enter Tryz.func211,Tryz.ntmps211
  go_wp2_with fail
  refine(sz1 _).mono ?_
  rintro e w1 ⟨rfl,rfl⟩
  go_wp2_with fail
  refine(sz2 _).mono ?_
  rintro e w1 ⟨rfl,rfl⟩
  go_wp2_with fail
  refine(pr _).mono ?_
  rintro e w1 ⟨rfl,rfl⟩
  go_wp2_with fail
  refine(sz3 _).mono ?_
  rintro e w1 ⟨rfl,rfl⟩
  go_wp2_with fail
  refine(dv _).mono ?_
  rintro e w1 ⟨rfl,rfl⟩
  go_wp2_with fail
  refine(sz3 _).mono ?_
  rintro e w1 ⟨rfl,rfl⟩
  have d0:=hr0
  rcases Nat.lt_trichotomy s r with hsr|hsr|hsr
  ·have d1:decide (s<r)=true:=decide_eq_true hsr
   have HZ2:Hid (Z=(q:Int)+1):=by unfold Hid;rw[HZ.out,if_pos (by have:=HCS.out;omega)]
   obtain⟨Q,hQ⟩:∃Q,q+1=Q:=⟨_,rfl⟩
   have HQ:=Lib.hid hQ
   have es1:(q:Int)+1=(Q:Int):=by omega
   have d3:decide ((9223372036854775808:Int)<(Q:Int))=false:=decide_eq_false (by omega)
   have d3':decide (9223372036854775808<Q)=false:=decide_eq_false (by omega)
   have d4:((Q:Int) == 9223372036854775808)=false:=beq_eq_false_iff_ne.2 (by omega)
   have ew:IntKind.u64.wrap (Q:Int)=(Q:Int):=by rw[IntKind.wrap_u64];omega
   have d5:((Q:Int) == 0)=false:=beq_eq_false_iff_ne.2 (by omega)
   have HF:Hid (wrap64 (Q:Int)=Z∧(Q:Int)=Z):=by unfold Hid wrap64;rw[HZ2.out];omega
   clear hsr h1 h2 hC hC2 ec ec2 h0 sz1 sz2 sz3 pr dv HZ hr0
   go_upto_region 13 with fail
   clear es hqb hrb hsb hAb2
   clear hQ
   go_wp2
   go_ret2
   exact⟨by first|(rw[HF.out];rfl)|(rw[HF.out.1];rfl)|(rw[HF.out.2];rfl)|rfl,rfl⟩
  ·have d1:decide (s<r)=false:=decide_eq_false (by omega)
   have d2:((r:Int) == (s:Int))=true:=by rw[beq_iff_eq];omega
   have HZ2:Hid (Z=(q:Int)+1):=by unfold Hid;rw[HZ.out,if_pos (by have:=HCS.out;omega)]
   obtain⟨Q,hQ⟩:∃Q,q+1=Q:=⟨_,rfl⟩
   have HQ:=Lib.hid hQ
   have es1:(q:Int)+1=(Q:Int):=by omega
   have d3:decide ((9223372036854775808:Int)<(Q:Int))=false:=decide_eq_false (by omega)
   have d3':decide (9223372036854775808<Q)=false:=decide_eq_false (by omega)
   have d4:((Q:Int) == 9223372036854775808)=false:=beq_eq_false_iff_ne.2 (by omega)
   have ew:IntKind.u64.wrap (Q:Int)=(Q:Int):=by rw[IntKind.wrap_u64];omega
   have d5:((Q:Int) == 0)=false:=beq_eq_false_iff_ne.2 (by omega)
   have HF:Hid (wrap64 (Q:Int)=Z∧(Q:Int)=Z):=by unfold Hid wrap64;rw[HZ2.out];omega
   clear hsr h1 h2 hC hC2 ec ec2 h0 sz1 sz2 sz3 pr dv HZ hr0
   go_upto_region 13 with fail
   clear es hqb hrb hsb hAb2
   clear hQ
   go_wp2
   go_ret2
   exact⟨by first|(rw[HF.out];rfl)|(rw[HF.out.1];rfl)|(rw[HF.out.2];rfl)|rfl,rfl⟩
  ·have d1:decide (s<r)=false:=decide_eq_false (by omega)
   have d2:((r:Int) == (s:Int))=false:=beq_eq_false_iff_ne.2 (by omega)
   have HZ2:Hid (Z=(q:Int)):=by unfold Hid;rw[HZ.out,if_neg (by have:=HCS.out;omega)]
   obtain⟨Q,hQ⟩:∃Q,q=Q:=⟨_,rfl⟩
   have HQ:=Lib.hid hQ
   have d3:decide ((9223372036854775808:Int)<(Q:Int))=false:=decide_eq_false (by omega)
   have d3':decide (9223372036854775808<Q)=false:=decide_eq_false (by omega)
   have d4:((Q:Int) == 9223372036854775808)=false:=beq_eq_false_iff_ne.2 (by omega)
   have ew:IntKind.u64.wrap (Q:Int)=(Q:Int):=by rw[IntKind.wrap_u64];omega
   subst hQ
   have HF:Hid (wrap64 (q:Int)=Z∧(q:Int)=Z):=by unfold Hid wrap64;rw[HZ2.out];omega
   clear hsr h1 h2 hC hC2 ec ec2 h0 sz1 sz2 sz3 pr dv HZ hr0
   go_upto_region 13 with fail
   clear es hqb hrb hsb hAb2
   go_wp2
   go_ret2
   exact⟨by first|(rw[HF.out];rfl)|(rw[HF.out.1];rfl)|(rw[HF.out.2];rfl)|rfl,rfl⟩
end Go.Proofs.YtgmehlgfilpleaaGreatDoor
