/-
  Contracts: angles from 0 to the circle, the series, sines and cosines; both sides.
-/
import Derived.Test.YtgmehlgfilpleaaGreatDoorMG17
import Derived.IntWalk
namespace Go.Proofs.YtgmehlgfilpleaaGreatDoor
open Go.RowKit
set_option linter.unusedVariables false
set_option linter.unusedSimpArgs false

theorem natProd {x y:Nat} (hx:x≤2147483648) (hy:y≤2147483648):(0:Int)≤(x:Int)*(y:Int)∧(x:Int)*(y:Int)≤4611686018427387904:=by
 have h:=Nat.mul_le_mul hx hy
 rw[←Int.natCast_mul]
 omega
theorem mulT_int (x y:Nat):(mulT x y:Int)=((x:Int)*(y:Int)+1073741824)/2147483648:=by
 unfold mulT;rw[←Int.natCast_mul];omega
theorem tmul_any (x y:Nat) (w:World) (hx:x≤2147483648) (hy:y≤2147483648) :
  Calls Tryz.prog 403 #[.int .i64 (x:Int),.int .i64 (y:Int)] w fun e w'=>e=.returned (.int .i64 (mulT x y:Int))∧w=w':=by
 have hb:=natProd hx hy
 have HM:=Lib.hid (mulT_int x y)
 clear hx hy
 go_enter Tryz.func403,Tryz.ntmps403
 go_wp2
 go_ret
 exact⟨ret_int (by rw[HM.out]),rfl⟩
theorem rtmul_any (x y:Nat) (w:World) (hx:x≤2147483648) (hy:y≤2147483648) :
  Calls Tryz.prog 382 #[.int .i64 (x:Int),.int .i64 (y:Int)] w fun e w'=>e=.returned (.int .i64 (mulT x y:Int))∧w=w':=by
 have hb:=natProd hx hy
 have HM:=Lib.hid (mulT_int x y)
 clear hx hy
 go_enter Tryz.func382,Tryz.ntmps382
 go_wp2
 go_ret
 exact⟨ret_int (by rw[HM.out]),rfl⟩
theorem tdiv_any (x n:Nat) (w:World) (hx:x≤4611686018427387904) (hn:1≤n) (hn2:n≤1000) :
  Calls Tryz.prog 404 #[.int .i64 (x:Int),.int .i64 (n:Int)] w fun e w'=>e=.returned (.int .i64 (divT x n:Int))∧w=w':=by
 go_enter Tryz.func404,Tryz.ntmps404
 go_wp2
 go_ret
 exact⟨ret_int (by unfold divT;rw[Int.natCast_ediv,Int.natCast_add,Int.natCast_ediv];rfl),rfl⟩
theorem rtdiv_any (x n:Nat) (w:World) (hx:x≤4611686018427387904) (hn:1≤n) (hn2:n≤1000) :
  Calls Tryz.prog 381 #[.int .i64 (x:Int),.int .i64 (n:Int)] w fun e w'=>e=.returned (.int .i64 (divT x n:Int))∧w=w':=by
 go_enter Tryz.func381,Tryz.ntmps381
 go_wp2
 go_ret
 exact⟨ret_int (by unfold divT;rw[Int.natCast_ediv,Int.natCast_add,Int.natCast_ediv];rfl),rfl⟩
theorem tmod_bd {a:Int} (h:a<0) : -129600000<a.tmod 129600000∧a.tmod 129600000≤0:=by
 have e:a.tmod 129600000 = -((-a)%129600000):=by
  have:=Int.neg_tmod (-a) 129600000
  rw[Int.neg_neg] at this
  rw[this,Int.tmod_eq_emod_of_nonneg (by omega)]
 rw[e];omega
theorem tmod_nrm {a:Int} (h:a<0):(nrmN a:Int)=if a.tmod 129600000=0 then 0 else a.tmod 129600000+129600000:=by
 have e:a.tmod 129600000 = -((-a)%129600000):=by
  have:=Int.neg_tmod (-a) 129600000
  rw[Int.neg_neg] at this
  rw[this,Int.tmod_eq_emod_of_nonneg (by omega)]
 rw[e];unfold nrmN;split <;> omega
theorem norm_any (a:Int) (w:World) (h1 : -9223372036854775808≤a) (h2:a≤9223372036854775807) :
  Calls Tryz.prog 253 #[.int .i64 a] w fun e w'=>e=.returned (.int .i64 (nrmN a:Int))∧w=w':=by
 by_cases h0:0≤a
 ·go_enter Tryz.func253,Tryz.ntmps253
  go_wp2
  go_ret
  exact⟨ret_int (by unfold nrmN;omega),rfl⟩
 ·have hA:=tmod_bd (a:=a) (by omega)
  have HB:=Lib.hid (tmod_nrm (a:=a) (by omega))
  by_cases hz:a.tmod 129600000=0
  ·have hz1:0≤a.tmod 129600000:=by omega
   have HZ:=Lib.hid hz
   clear hz
   go_enter Tryz.func253,Tryz.ntmps253
   go_wp2
   go_ret
   exact⟨ret_int (by have h5:=HB.out;have h6:=HZ.out;rw[if_pos h6] at h5;omega),rfl⟩
  ·have hz1:a.tmod 129600000<0:=by omega
   clear hz
   go_enter Tryz.func253,Tryz.ntmps253
   go_wp2
   go_ret
   exact⟨ret_int (by have:=HB.out;omega),rfl⟩
theorem rnorm_any (a:Int) (w:World) (h1 : -9223372036854775808≤a) (h2:a≤9223372036854775807) :
  Calls Tryz.prog 281 #[.int .i64 a] w fun e w'=>e=.returned (.int .i64 (nrmN a:Int))∧w=w':=by
 by_cases h0:0≤a
 ·go_enter Tryz.func281,Tryz.ntmps281
  go_wp2
  go_ret
  exact⟨ret_int (by unfold nrmN;omega),rfl⟩
 ·have hA:=tmod_bd (a:=a) (by omega)
  have HB:=Lib.hid (tmod_nrm (a:=a) (by omega))
  by_cases hz:a.tmod 129600000=0
  ·have hz1:0≤a.tmod 129600000:=by omega
   have HZ:=Lib.hid hz
   clear hz
   go_enter Tryz.func281,Tryz.ntmps281
   go_wp2
   go_ret
   exact⟨ret_int (by have h5:=HB.out;have h6:=HZ.out;rw[if_pos h6] at h5;omega),rfl⟩
  ·have hz1:a.tmod 129600000<0:=by omega
   clear hz
   go_enter Tryz.func281,Tryz.ntmps281
   go_wp2
   go_ret
   exact⟨ret_int (by have:=HB.out;omega),rfl⟩
theorem turn_nat (a b:Int):(0:Int)≤(nrmN a:Int)+(nrmN b:Int)∧(nrmN a:Int)+(nrmN b:Int)<259200000:=by
 have:=nrmN_lt a;have:=nrmN_lt b;omega
theorem turn_any (a b:Int) (w:World) (h1 : -9223372036854775808≤a) (h2:a≤9223372036854775807) (h3 : -9223372036854775808≤b) (h4:b≤9223372036854775807) :
  Calls Tryz.prog 346 #[.int .i64 a,.int .i64 b] w fun e w'=>e=.returned (.int .i64 (nrmN ((nrmN a:Int)+(nrmN b:Int)):Int))∧w=w':=by
 have hn:=turn_nat a b
 go_enter Tryz.func346,Tryz.ntmps346
 go_wp2_with fail
 refine(norm_any a _ h1 h2).mono ?_
 rintro e w' ⟨rfl,rfl⟩
 go_wp2_with fail
 refine(norm_any b _ h3 h4).mono ?_
 rintro e w' ⟨rfl,rfl⟩
 go_wp2_with fail
 refine(norm_any _ _ (by omega) (by omega)).mono ?_
 rintro e w' ⟨rfl,rfl⟩
 go_wp2
 go_ret
 exact⟨rfl,rfl⟩
theorem rturn_any (a b:Int) (w:World) (h1 : -9223372036854775808≤a) (h2:a≤9223372036854775807) (h3 : -9223372036854775808≤b) (h4:b≤9223372036854775807) :
  Calls Tryz.prog 280 #[.int .i64 a,.int .i64 b] w fun e w'=>e=.returned (.int .i64 (nrmN ((nrmN a:Int)+(nrmN b:Int)):Int))∧w=w':=by
 have hn:=turn_nat a b
 go_enter Tryz.func280,Tryz.ntmps280
 go_wp2_with fail
 refine(rnorm_any a _ h1 h2).mono ?_
 rintro e w' ⟨rfl,rfl⟩
 go_wp2_with fail
 refine(rnorm_any b _ h3 h4).mono ?_
 rintro e w' ⟨rfl,rfl⟩
 go_wp2_with fail
 refine(rnorm_any _ _ (by omega) (by omega)).mono ?_
 rintro e w' ⟨rfl,rfl⟩
 go_wp2
 go_ret
 exact⟨rfl,rfl⟩
theorem serT_bd (a:Nat) (h:a≤16200000) (ns:List Nat):serR (uArg a) ns oneT≤2147483648∧tArg a≤2147483648∧uArg a≤1325400000 :=
 ⟨serR_top _ _ _ (Nat.le_refl _),by have:=tArg_top h;omega,uArg_top h⟩
theorem mulT_one (u:Nat):mulT u oneT=u:=by unfold mulT oneT;omega
theorem ser_step (u:Nat) (ns:List Nat) (n:Nat) (hu:u≤1325400000) (hn:2≤n) (hn2:n≤1000) :
  mulT u (serR u ns oneT)≤1325400000∧(serR u (ns++[n]) oneT:Int)=2147483648-(divT (mulT u (serR u ns oneT)) n:Int):=by
 have h1:=mulT_small (u:=u) (r:=serR u ns oneT) (serR_top _ _ _ (Nat.le_refl _))
 have h2:=divT_half (x:=mulT u (serR u ns oneT)) hn
 rw[serR_snoc]
 have:oneT=2147483648:=rfl
 omega
theorem tArg_int (a:Nat):(tArg a:Int)=((a:Int)*6746518852+32400000)/64800000:=by unfold tArg;omega
theorem ser_at (u:Nat) (ns:List Nat) (k n:Nat) (hu:u≤1325400000) (hk:k<ns.length) (hn:ns[k]=n) (h2:2≤n) (h3:n≤1000) :
  mulT u (serR u (ns.take k) oneT)≤1325400000∧serR u (ns.take k) oneT≤2147483648∧(serR u (ns.take (k+1)) oneT:Int)=2147483648-(divT (mulT u (serR u (ns.take k) oneT)) n:Int)∧(divT (mulT u (serR u (ns.take k) oneT)) n:Int)≤2147483648:=by
 have h:=ser_step u (ns.take k) n hu h2 h3
 rw[List.take_succ_eq_append_getElem hk,hn]
 exact⟨h.1,serR_top _ _ _ (Nat.le_refl _),h.2,by have:=h.2;omega⟩
theorem ser_zero (u:Nat) (ns:List Nat):mulT u (serR u (ns.take 0) oneT)=u:=by rw[List.take_zero,serR_nil,mulT_one]
def SerRel (u:Nat) (ns:List Nat) (r i:Value):Prop:=∃(k:Nat) (x:Int) (y:Nat),k≤5∧x=(k:Int)∧serR u (ns.take k) oneT=y∧i=.int .i64 x∧r=.int .i64 (y:Int)
theorem SerRel.start (u:Nat) (ns:List Nat):SerRel u ns (.int .i64 2147483648) (.int .i64 0) :=
 ⟨0,0,oneT,by omega,by omega,by rw[List.take_zero,serR_nil],rfl,by rw[oneT];rfl⟩
set_option maxHeartbeats 2000000 in
theorem tsine_any (a:Nat) (w:World) (ha:a≤16200000) :
  Calls Tryz.prog 383 #[.int .i64 (a:Int)] w fun e w'=>e=.returned (.int .i64 (sinT a:Int))∧w=w':=by
 have HT:=Lib.hid (tArg_int a)
 have HB:=Lib.hid (serT_bd a ha [110,72,42,20,6])
 obtain⟨u,hu⟩:∃u,uArg a=u:=⟨_,rfl⟩
 obtain⟨t,ht⟩:∃t,tArg a=t:=⟨_,rfl⟩
 have HUT:Hid (mulT t t=u):=by unfold Hid;rw[←ht,←hu,uArg]
 have HO:Hid (∀y:Nat,serR u [110,72,42,20,6] oneT=y→sinT a=(mulT t y+1)/2):=by
  intro y hy;first|rw[←hy,←ht,←hu,sinT]|rw[←hy,←hu,sinT]
 rw[ht,hu] at HB
 rw[ht] at HT
 have HU:=HB.out.2.2
 have HT2:=Lib.hid HB.out.2.1
 clear hu ht
 go_enter Tryz.func383,Tryz.ntmps383
 go_wp2_with fail
 rw[←HT.out]
 refine(tmul_any t t _ HT2.out HT2.out).mono ?_
 rintro e w' ⟨rfl,rfl⟩
 rw[HUT.out]
 go_wp2_with fail
 go_loop [5,17] (fun r i=>SerRel u [110,72,42,20,6] r i) (fun _ i=>5-(intOf i).toNat)
 case atStart=>exact SerRel.start u [110,72,42,20,6]
 case round =>
  obtain⟨k,x,y,hk,hx,hy,rfl,rfl⟩:=hrel
  have HY2:Hid (y≤2147483648):=by unfold Hid;rw[←hy];exact serR_top _ _ _ (Nat.le_refl _)
  have hk6:k=0∨k=1∨k=2∨k=3∨k=4∨k=5:=by omega
  rcases hk6 with rfl|rfl|rfl|rfl|rfl|rfl
  case inr.inr.inr.inr.inr =>
   obtain rfl:x=5:=hx
   have HF:=HO.out y hy
   clear hy hk HO
   have h0:=HY2.out
   have hm:=mulT_le (show t*y≤2147483648*2147483648 from Nat.mul_le_mul HT2.out h0)
   have hm2:mulT t y≤2147483648:=Nat.le_trans hm (by decide)
   have HF2:=Lib.hid HF
   clear HF hm
   go_wp2_with fail
   refine(tmul_any t y _ HT2.out HY2.out).mono ?_;rintro e w' ⟨rfl,rfl⟩
   go_wp2
   go_ret
   exact⟨ret_int (by rw[HF2.out];omega),rfl⟩
  case inl =>
   obtain rfl:x=0:=hx
   have hs:=ser_at u [110,72,42,20,6] 0 110 HU (by decide) rfl (by decide) (by decide)
   have e0:mulT u y=u:=by rw[←hy,ser_zero]
   rw[hy] at hs
   try rw[e0] at hs
   obtain⟨d,hdd⟩:∃d,divT u 110=d:=⟨_,rfl⟩
   have HDD:=Lib.hid hdd
   rw[hdd] at hs
   have HS:=Lib.hid hs.2.2.1
   have HV:=Lib.hid hs.1
   have HD:=Lib.hid hs.2.2.2
   have HU2:Hid (u≤2147483648):=by unfold Hid;omega
   clear hs hy hk HO hdd HU
   have ix:∀w,(Instr.index 409 (.agg #[.int .i64 110,.int .i64 72,.int .i64 42,.int .i64 20,.int .i64 6]) (.int .i64 0)).run Tryz.prog w=.ok (.int .i64 110) w:=fun _=>by kernel_rfl
   try clear e0
   go_wp2_with fail
   skip
   refine(tdiv_any u 110 _ (by have:=HV.out;omega) (by decide) (by decide)).mono ?_
   rintro e w' ⟨rfl,rfl⟩
   rw[HDD.out]
   have hd:=HD.out
   go_wp2
   go_round
   case rel=>exact⟨0+1,0+1,_,by omega,rfl,rfl,rfl,by rw[HS.out]⟩
   case measure=>simp[intOf]
  case inr.inl =>
   obtain rfl:x=1:=hx
   have hs:=ser_at u [110,72,42,20,6] 1 72 HU (by decide) rfl (by decide) (by decide)
   skip
   rw[hy] at hs
   try rw[e0] at hs
   obtain⟨d,hdd⟩:∃d,divT (mulT u y) 72=d:=⟨_,rfl⟩
   have HDD:=Lib.hid hdd
   rw[hdd] at hs
   have HS:=Lib.hid hs.2.2.1
   have HV:=Lib.hid hs.1
   have HD:=Lib.hid hs.2.2.2
   have HU2:Hid (u≤2147483648):=by unfold Hid;omega
   clear hs hy hk HO hdd HU
   have ix:∀w,(Instr.index 409 (.agg #[.int .i64 110,.int .i64 72,.int .i64 42,.int .i64 20,.int .i64 6]) (.int .i64 1)).run Tryz.prog w=.ok (.int .i64 72) w:=fun _=>by kernel_rfl
   try clear e0
   go_wp2_with fail
   refine(tmul_any u y _ HU2.out HY2.out).mono ?_;rintro e w' ⟨rfl,rfl⟩;go_wp2_with fail
   refine(tdiv_any (mulT u y) 72 _ (by have:=HV.out;omega) (by decide) (by decide)).mono ?_
   rintro e w' ⟨rfl,rfl⟩
   rw[HDD.out]
   have hd:=HD.out
   go_wp2
   go_round
   case rel=>exact⟨1+1,1+1,_,by omega,rfl,rfl,rfl,by rw[HS.out]⟩
   case measure=>simp[intOf]
  case inr.inr.inl =>
   obtain rfl:x=2:=hx
   have hs:=ser_at u [110,72,42,20,6] 2 42 HU (by decide) rfl (by decide) (by decide)
   skip
   rw[hy] at hs
   try rw[e0] at hs
   obtain⟨d,hdd⟩:∃d,divT (mulT u y) 42=d:=⟨_,rfl⟩
   have HDD:=Lib.hid hdd
   rw[hdd] at hs
   have HS:=Lib.hid hs.2.2.1
   have HV:=Lib.hid hs.1
   have HD:=Lib.hid hs.2.2.2
   have HU2:Hid (u≤2147483648):=by unfold Hid;omega
   clear hs hy hk HO hdd HU
   have ix:∀w,(Instr.index 409 (.agg #[.int .i64 110,.int .i64 72,.int .i64 42,.int .i64 20,.int .i64 6]) (.int .i64 2)).run Tryz.prog w=.ok (.int .i64 42) w:=fun _=>by kernel_rfl
   try clear e0
   go_wp2_with fail
   refine(tmul_any u y _ HU2.out HY2.out).mono ?_;rintro e w' ⟨rfl,rfl⟩;go_wp2_with fail
   refine(tdiv_any (mulT u y) 42 _ (by have:=HV.out;omega) (by decide) (by decide)).mono ?_
   rintro e w' ⟨rfl,rfl⟩
   rw[HDD.out]
   have hd:=HD.out
   go_wp2
   go_round
   case rel=>exact⟨2+1,2+1,_,by omega,rfl,rfl,rfl,by rw[HS.out]⟩
   case measure=>simp[intOf]
  case inr.inr.inr.inl =>
   obtain rfl:x=3:=hx
   have hs:=ser_at u [110,72,42,20,6] 3 20 HU (by decide) rfl (by decide) (by decide)
   skip
   rw[hy] at hs
   try rw[e0] at hs
   obtain⟨d,hdd⟩:∃d,divT (mulT u y) 20=d:=⟨_,rfl⟩
   have HDD:=Lib.hid hdd
   rw[hdd] at hs
   have HS:=Lib.hid hs.2.2.1
   have HV:=Lib.hid hs.1
   have HD:=Lib.hid hs.2.2.2
   have HU2:Hid (u≤2147483648):=by unfold Hid;omega
   clear hs hy hk HO hdd HU
   have ix:∀w,(Instr.index 409 (.agg #[.int .i64 110,.int .i64 72,.int .i64 42,.int .i64 20,.int .i64 6]) (.int .i64 3)).run Tryz.prog w=.ok (.int .i64 20) w:=fun _=>by kernel_rfl
   try clear e0
   go_wp2_with fail
   refine(tmul_any u y _ HU2.out HY2.out).mono ?_;rintro e w' ⟨rfl,rfl⟩;go_wp2_with fail
   refine(tdiv_any (mulT u y) 20 _ (by have:=HV.out;omega) (by decide) (by decide)).mono ?_
   rintro e w' ⟨rfl,rfl⟩
   rw[HDD.out]
   have hd:=HD.out
   go_wp2
   go_round
   case rel=>exact⟨3+1,3+1,_,by omega,rfl,rfl,rfl,by rw[HS.out]⟩
   case measure=>simp[intOf]
  case inr.inr.inr.inr.inl =>
   obtain rfl:x=4:=hx
   have hs:=ser_at u [110,72,42,20,6] 4 6 HU (by decide) rfl (by decide) (by decide)
   skip
   rw[hy] at hs
   try rw[e0] at hs
   obtain⟨d,hdd⟩:∃d,divT (mulT u y) 6=d:=⟨_,rfl⟩
   have HDD:=Lib.hid hdd
   rw[hdd] at hs
   have HS:=Lib.hid hs.2.2.1
   have HV:=Lib.hid hs.1
   have HD:=Lib.hid hs.2.2.2
   have HU2:Hid (u≤2147483648):=by unfold Hid;omega
   clear hs hy hk HO hdd HU
   have ix:∀w,(Instr.index 409 (.agg #[.int .i64 110,.int .i64 72,.int .i64 42,.int .i64 20,.int .i64 6]) (.int .i64 4)).run Tryz.prog w=.ok (.int .i64 6) w:=fun _=>by kernel_rfl
   try clear e0
   go_wp2_with fail
   refine(tmul_any u y _ HU2.out HY2.out).mono ?_;rintro e w' ⟨rfl,rfl⟩;go_wp2_with fail
   refine(tdiv_any (mulT u y) 6 _ (by have:=HV.out;omega) (by decide) (by decide)).mono ?_
   rintro e w' ⟨rfl,rfl⟩
   rw[HDD.out]
   have hd:=HD.out
   go_wp2
   go_round
   case rel=>exact⟨4+1,4+1,_,by omega,rfl,rfl,rfl,by rw[HS.out]⟩
   case measure=>simp[intOf]
set_option maxHeartbeats 2000000 in
theorem tcosine_any (a:Nat) (w:World) (ha:a≤16200000) :
  Calls Tryz.prog 384 #[.int .i64 (a:Int)] w fun e w'=>e=.returned (.int .i64 (cosT a:Int))∧w=w':=by
 have HT:=Lib.hid (tArg_int a)
 have HB:=Lib.hid (serT_bd a ha [90,56,30,12,2])
 obtain⟨u,hu⟩:∃u,uArg a=u:=⟨_,rfl⟩
 obtain⟨t,ht⟩:∃t,tArg a=t:=⟨_,rfl⟩
 have HUT:Hid (mulT t t=u):=by unfold Hid;rw[←ht,←hu,uArg]
 have HO:Hid (∀y:Nat,serR u [90,56,30,12,2] oneT=y→cosT a=(y+1)/2):=by
  intro y hy;first|rw[←hy,←ht,←hu,cosT]|rw[←hy,←hu,cosT]
 rw[ht,hu] at HB
 rw[ht] at HT
 have HU:=HB.out.2.2
 have HT2:=Lib.hid HB.out.2.1
 clear hu ht
 go_enter Tryz.func384,Tryz.ntmps384
 go_wp2_with fail
 rw[←HT.out]
 refine(tmul_any t t _ HT2.out HT2.out).mono ?_
 rintro e w' ⟨rfl,rfl⟩
 rw[HUT.out]
 go_wp2_with fail
 go_loop [5,17] (fun r i=>SerRel u [90,56,30,12,2] r i) (fun _ i=>5-(intOf i).toNat)
 case atStart=>exact SerRel.start u [90,56,30,12,2]
 case round =>
  obtain⟨k,x,y,hk,hx,hy,rfl,rfl⟩:=hrel
  have HY2:Hid (y≤2147483648):=by unfold Hid;rw[←hy];exact serR_top _ _ _ (Nat.le_refl _)
  have hk6:k=0∨k=1∨k=2∨k=3∨k=4∨k=5:=by omega
  rcases hk6 with rfl|rfl|rfl|rfl|rfl|rfl
  case inr.inr.inr.inr.inr =>
   obtain rfl:x=5:=hx
   have HF:=HO.out y hy
   clear hy hk HO
   have h0:=HY2.out
   have hm:=mulT_le (show t*y≤2147483648*2147483648 from Nat.mul_le_mul HT2.out h0)
   have hm2:mulT t y≤2147483648:=Nat.le_trans hm (by decide)
   have HF2:=Lib.hid HF
   clear HF hm
   go_wp2_with fail
   skip
   go_wp2
   go_ret
   exact⟨ret_int (by rw[HF2.out];omega),rfl⟩
  case inl =>
   obtain rfl:x=0:=hx
   have hs:=ser_at u [90,56,30,12,2] 0 90 HU (by decide) rfl (by decide) (by decide)
   have e0:mulT u y=u:=by rw[←hy,ser_zero]
   rw[hy] at hs
   try rw[e0] at hs
   obtain⟨d,hdd⟩:∃d,divT u 90=d:=⟨_,rfl⟩
   have HDD:=Lib.hid hdd
   rw[hdd] at hs
   have HS:=Lib.hid hs.2.2.1
   have HV:=Lib.hid hs.1
   have HD:=Lib.hid hs.2.2.2
   have HU2:Hid (u≤2147483648):=by unfold Hid;omega
   clear hs hy hk HO hdd HU
   have ix:∀w,(Instr.index 409 (.agg #[.int .i64 90,.int .i64 56,.int .i64 30,.int .i64 12,.int .i64 2]) (.int .i64 0)).run Tryz.prog w=.ok (.int .i64 90) w:=fun _=>by kernel_rfl
   try clear e0
   go_wp2_with fail
   skip
   refine(tdiv_any u 90 _ (by have:=HV.out;omega) (by decide) (by decide)).mono ?_
   rintro e w' ⟨rfl,rfl⟩
   rw[HDD.out]
   have hd:=HD.out
   go_wp2
   go_round
   case rel=>exact⟨0+1,0+1,_,by omega,rfl,rfl,rfl,by rw[HS.out]⟩
   case measure=>simp[intOf]
  case inr.inl =>
   obtain rfl:x=1:=hx
   have hs:=ser_at u [90,56,30,12,2] 1 56 HU (by decide) rfl (by decide) (by decide)
   skip
   rw[hy] at hs
   try rw[e0] at hs
   obtain⟨d,hdd⟩:∃d,divT (mulT u y) 56=d:=⟨_,rfl⟩
   have HDD:=Lib.hid hdd
   rw[hdd] at hs
   have HS:=Lib.hid hs.2.2.1
   have HV:=Lib.hid hs.1
   have HD:=Lib.hid hs.2.2.2
   have HU2:Hid (u≤2147483648):=by unfold Hid;omega
   clear hs hy hk HO hdd HU
   have ix:∀w,(Instr.index 409 (.agg #[.int .i64 90,.int .i64 56,.int .i64 30,.int .i64 12,.int .i64 2]) (.int .i64 1)).run Tryz.prog w=.ok (.int .i64 56) w:=fun _=>by kernel_rfl
   try clear e0
   go_wp2_with fail
   refine(tmul_any u y _ HU2.out HY2.out).mono ?_;rintro e w' ⟨rfl,rfl⟩;go_wp2_with fail
   refine(tdiv_any (mulT u y) 56 _ (by have:=HV.out;omega) (by decide) (by decide)).mono ?_
   rintro e w' ⟨rfl,rfl⟩
   rw[HDD.out]
   have hd:=HD.out
   go_wp2
   go_round
   case rel=>exact⟨1+1,1+1,_,by omega,rfl,rfl,rfl,by rw[HS.out]⟩
   case measure=>simp[intOf]
  case inr.inr.inl =>
   obtain rfl:x=2:=hx
   have hs:=ser_at u [90,56,30,12,2] 2 30 HU (by decide) rfl (by decide) (by decide)
   skip
   rw[hy] at hs
   try rw[e0] at hs
   obtain⟨d,hdd⟩:∃d,divT (mulT u y) 30=d:=⟨_,rfl⟩
   have HDD:=Lib.hid hdd
   rw[hdd] at hs
   have HS:=Lib.hid hs.2.2.1
   have HV:=Lib.hid hs.1
   have HD:=Lib.hid hs.2.2.2
   have HU2:Hid (u≤2147483648):=by unfold Hid;omega
   clear hs hy hk HO hdd HU
   have ix:∀w,(Instr.index 409 (.agg #[.int .i64 90,.int .i64 56,.int .i64 30,.int .i64 12,.int .i64 2]) (.int .i64 2)).run Tryz.prog w=.ok (.int .i64 30) w:=fun _=>by kernel_rfl
   try clear e0
   go_wp2_with fail
   refine(tmul_any u y _ HU2.out HY2.out).mono ?_;rintro e w' ⟨rfl,rfl⟩;go_wp2_with fail
   refine(tdiv_any (mulT u y) 30 _ (by have:=HV.out;omega) (by decide) (by decide)).mono ?_
   rintro e w' ⟨rfl,rfl⟩
   rw[HDD.out]
   have hd:=HD.out
   go_wp2
   go_round
   case rel=>exact⟨2+1,2+1,_,by omega,rfl,rfl,rfl,by rw[HS.out]⟩
   case measure=>simp[intOf]
  case inr.inr.inr.inl =>
   obtain rfl:x=3:=hx
   have hs:=ser_at u [90,56,30,12,2] 3 12 HU (by decide) rfl (by decide) (by decide)
   skip
   rw[hy] at hs
   try rw[e0] at hs
   obtain⟨d,hdd⟩:∃d,divT (mulT u y) 12=d:=⟨_,rfl⟩
   have HDD:=Lib.hid hdd
   rw[hdd] at hs
   have HS:=Lib.hid hs.2.2.1
   have HV:=Lib.hid hs.1
   have HD:=Lib.hid hs.2.2.2
   have HU2:Hid (u≤2147483648):=by unfold Hid;omega
   clear hs hy hk HO hdd HU
   have ix:∀w,(Instr.index 409 (.agg #[.int .i64 90,.int .i64 56,.int .i64 30,.int .i64 12,.int .i64 2]) (.int .i64 3)).run Tryz.prog w=.ok (.int .i64 12) w:=fun _=>by kernel_rfl
   try clear e0
   go_wp2_with fail
   refine(tmul_any u y _ HU2.out HY2.out).mono ?_;rintro e w' ⟨rfl,rfl⟩;go_wp2_with fail
   refine(tdiv_any (mulT u y) 12 _ (by have:=HV.out;omega) (by decide) (by decide)).mono ?_
   rintro e w' ⟨rfl,rfl⟩
   rw[HDD.out]
   have hd:=HD.out
   go_wp2
   go_round
   case rel=>exact⟨3+1,3+1,_,by omega,rfl,rfl,rfl,by rw[HS.out]⟩
   case measure=>simp[intOf]
  case inr.inr.inr.inr.inl =>
   obtain rfl:x=4:=hx
   have hs:=ser_at u [90,56,30,12,2] 4 2 HU (by decide) rfl (by decide) (by decide)
   skip
   rw[hy] at hs
   try rw[e0] at hs
   obtain⟨d,hdd⟩:∃d,divT (mulT u y) 2=d:=⟨_,rfl⟩
   have HDD:=Lib.hid hdd
   rw[hdd] at hs
   have HS:=Lib.hid hs.2.2.1
   have HV:=Lib.hid hs.1
   have HD:=Lib.hid hs.2.2.2
   have HU2:Hid (u≤2147483648):=by unfold Hid;omega
   clear hs hy hk HO hdd HU
   have ix:∀w,(Instr.index 409 (.agg #[.int .i64 90,.int .i64 56,.int .i64 30,.int .i64 12,.int .i64 2]) (.int .i64 4)).run Tryz.prog w=.ok (.int .i64 2) w:=fun _=>by kernel_rfl
   try clear e0
   go_wp2_with fail
   refine(tmul_any u y _ HU2.out HY2.out).mono ?_;rintro e w' ⟨rfl,rfl⟩;go_wp2_with fail
   refine(tdiv_any (mulT u y) 2 _ (by have:=HV.out;omega) (by decide) (by decide)).mono ?_
   rintro e w' ⟨rfl,rfl⟩
   rw[HDD.out]
   have hd:=HD.out
   go_wp2
   go_round
   case rel=>exact⟨4+1,4+1,_,by omega,rfl,rfl,rfl,by rw[HS.out]⟩
   case measure=>simp[intOf]
set_option maxHeartbeats 1000000 in
theorem rargument_any (a:Nat) (w:World) (ha:a≤16200000) :
  Calls Tryz.prog 380 #[.int .i64 (a:Int)] w fun e w'=>e=.returned (.tuple #[.int .i64 (tArg a:Int),.int .i64 (uArg a:Int)])∧w=w':=by
 have HT:=Lib.hid (tArg_int a)
 have HB:=Lib.hid (serT_bd a ha [])
 have HU:Hid (mulT (tArg a) (tArg a)=uArg a):=by unfold Hid;rw[uArg]
 obtain⟨t,ht⟩:∃t,tArg a=t:=⟨_,rfl⟩
 rw[ht] at HT HB HU ⊢
 clear ht
 go_enter Tryz.func380,Tryz.ntmps380
 go_wp2_with fail
 rw[←HT.out]
 refine(rtmul_any t t _ HB.out.2.1 HB.out.2.1).mono ?_
 rintro e w' ⟨rfl,rfl⟩
 rw[HU.out]
 go_wp2
 go_ret2
 exact⟨rfl,rfl⟩
set_option maxHeartbeats 2000000 in
theorem rtsine_any (a:Nat) (w:World) (ha:a≤16200000) :
  Calls Tryz.prog 343 #[.int .i64 (a:Int)] w fun e w'=>e=.returned (.int .i64 (sinT a:Int))∧w=w':=by
 have HB:=Lib.hid (serT_bd a ha [110,72,42,20,6])
 have HA:=Lib.hid (rargument_any a w ha)
 obtain⟨u,hu⟩:∃u,uArg a=u:=⟨_,rfl⟩
 obtain⟨t,ht⟩:∃t,tArg a=t:=⟨_,rfl⟩
 have HO:Hid (∀y:Nat,serR u [110,72,42,20,6] oneT=y→sinT a=(mulT t y+1)/2):=by
  intro y hy;first|rw[←hy,←ht,←hu,sinT]|rw[←hy,←hu,sinT]
 rw[ht,hu] at HB HA
 have HU2:Hid (u≤2147483648):=by unfold Hid;have:=HB.out.2.2;omega
 have HT2:=Lib.hid HB.out.2.1
 have s0:=ser_at u [110,72,42,20,6] 0 _ HB.out.2.2 (by decide) rfl (by decide) (by decide)
 have s1:=ser_at u [110,72,42,20,6] 1 _ HB.out.2.2 (by decide) rfl (by decide) (by decide)
 have s2:=ser_at u [110,72,42,20,6] 2 _ HB.out.2.2 (by decide) rfl (by decide) (by decide)
 have s3:=ser_at u [110,72,42,20,6] 3 _ HB.out.2.2 (by decide) rfl (by decide) (by decide)
 have s4:=ser_at u [110,72,42,20,6] 4 _ HB.out.2.2 (by decide) rfl (by decide) (by decide)
 rw[ser_zero] at s0
 have HY:=HO.out (serR u ([110,72,42,20,6].take (4+1)) oneT) rfl
 have y5:Hid (serR u ([110,72,42,20,6].take (4+1)) oneT≤2147483648):=serR_top _ _ _ (Nat.le_refl _)
 generalize serR u ([110,72,42,20,6].take (0+1)) oneT=r1 at *
 generalize serR u ([110,72,42,20,6].take (1+1)) oneT=r2 at *
 generalize serR u ([110,72,42,20,6].take (2+1)) oneT=r3 at *
 generalize serR u ([110,72,42,20,6].take (3+1)) oneT=r4 at *
 generalize serR u ([110,72,42,20,6].take (4+1)) oneT=r5 at *
 have HY2:=Lib.hid HY
 have Y5:=y5
 have hm2:Hid (mulT t r5≤2147483648):=Nat.le_trans (mulT_le (show t*r5≤2147483648*2147483648 from Nat.mul_le_mul HT2.out y5.out)) (by decide)
 obtain⟨d0,hd0⟩:∃d,divT u 110=d:=⟨_,rfl⟩
 have s0':u≤1325400000∧(r1:Int)=2147483648-(d0:Int)∧(d0:Int)≤2147483648:=⟨s0.1,by rw[←hd0];exact s0.2.2.1,by rw[←hd0];exact s0.2.2.2⟩
 have D0:=Lib.hid hd0
 have S0:=Lib.hid s0'
 have Z0:Hid (r1≤2147483648):=by unfold Hid;omega
 obtain⟨d1,hd1⟩:∃d,divT (mulT u r1) 72=d:=⟨_,rfl⟩
 have s1':(mulT u r1)≤1325400000∧(r2:Int)=2147483648-(d1:Int)∧(d1:Int)≤2147483648:=⟨s1.1,by rw[←hd1];exact s1.2.2.1,by rw[←hd1];exact s1.2.2.2⟩
 have D1:=Lib.hid hd1
 have S1:=Lib.hid s1'
 have Z1:Hid (r2≤2147483648):=by unfold Hid;omega
 obtain⟨d2,hd2⟩:∃d,divT (mulT u r2) 42=d:=⟨_,rfl⟩
 have s2':(mulT u r2)≤1325400000∧(r3:Int)=2147483648-(d2:Int)∧(d2:Int)≤2147483648:=⟨s2.1,by rw[←hd2];exact s2.2.2.1,by rw[←hd2];exact s2.2.2.2⟩
 have D2:=Lib.hid hd2
 have S2:=Lib.hid s2'
 have Z2:Hid (r3≤2147483648):=by unfold Hid;omega
 obtain⟨d3,hd3⟩:∃d,divT (mulT u r3) 20=d:=⟨_,rfl⟩
 have s3':(mulT u r3)≤1325400000∧(r4:Int)=2147483648-(d3:Int)∧(d3:Int)≤2147483648:=⟨s3.1,by rw[←hd3];exact s3.2.2.1,by rw[←hd3];exact s3.2.2.2⟩
 have D3:=Lib.hid hd3
 have S3:=Lib.hid s3'
 have Z3:Hid (r4≤2147483648):=by unfold Hid;omega
 obtain⟨d4,hd4⟩:∃d,divT (mulT u r4) 6=d:=⟨_,rfl⟩
 have s4':(mulT u r4)≤1325400000∧(r5:Int)=2147483648-(d4:Int)∧(d4:Int)≤2147483648:=⟨s4.1,by rw[←hd4];exact s4.2.2.1,by rw[←hd4];exact s4.2.2.2⟩
 have D4:=Lib.hid hd4
 have S4:=Lib.hid s4'
 have Z4:Hid (r5≤2147483648):=by unfold Hid;omega
 clear s0 s1 s2 s3 s4 s0' s1' s2' s3' s4' hd0 hd1 hd2 hd3 hd4 y5 HY HO hu ht
 go_enter Tryz.func343,Tryz.ntmps343
 go_wp2_with fail
 refine HA.out.mono ?_
 rintro e w' ⟨rfl,rfl⟩
 go_wp2_with fail
 skip
 refine(rtdiv_any u 110 _ (by have:=S0.out.1;omega) (by decide) (by decide)).mono ?_
 rintro e w' ⟨rfl,rfl⟩
 rw[D0.out]
 have b0:=S0.out.2.2
 (first|go_wp2_with fail|skip)
 try rw[←S0.out.2.1]
 clear b0
 go_wp2_with fail
 refine(rtmul_any u r1 _ HU2.out Z0.out).mono ?_;rintro e w' ⟨rfl,rfl⟩;go_wp2_with fail
 refine(rtdiv_any (mulT u r1) 72 _ (by have:=S1.out.1;omega) (by decide) (by decide)).mono ?_
 rintro e w' ⟨rfl,rfl⟩
 rw[D1.out]
 have b1:=S1.out.2.2
 (first|go_wp2_with fail|skip)
 try rw[←S1.out.2.1]
 clear b1
 go_wp2_with fail
 refine(rtmul_any u r2 _ HU2.out Z1.out).mono ?_;rintro e w' ⟨rfl,rfl⟩;go_wp2_with fail
 refine(rtdiv_any (mulT u r2) 42 _ (by have:=S2.out.1;omega) (by decide) (by decide)).mono ?_
 rintro e w' ⟨rfl,rfl⟩
 rw[D2.out]
 have b2:=S2.out.2.2
 (first|go_wp2_with fail|skip)
 try rw[←S2.out.2.1]
 clear b2
 go_wp2_with fail
 refine(rtmul_any u r3 _ HU2.out Z2.out).mono ?_;rintro e w' ⟨rfl,rfl⟩;go_wp2_with fail
 refine(rtdiv_any (mulT u r3) 20 _ (by have:=S3.out.1;omega) (by decide) (by decide)).mono ?_
 rintro e w' ⟨rfl,rfl⟩
 rw[D3.out]
 have b3:=S3.out.2.2
 (first|go_wp2_with fail|skip)
 try rw[←S3.out.2.1]
 clear b3
 go_wp2_with fail
 refine(rtmul_any u r4 _ HU2.out Z3.out).mono ?_;rintro e w' ⟨rfl,rfl⟩;go_wp2_with fail
 refine(rtdiv_any (mulT u r4) 6 _ (by have:=S4.out.1;omega) (by decide) (by decide)).mono ?_
 rintro e w' ⟨rfl,rfl⟩
 rw[D4.out]
 have b4:=S4.out.2.2
 (first|go_wp2_with fail|skip)
 try rw[←S4.out.2.1]
 clear b4
 refine(rtmul_any t r5 _ HT2.out Y5.out).mono ?_;rintro e w' ⟨rfl,rfl⟩
 have hz:=hm2.out
 have hz2:=Z4.out
 go_wp2
 go_ret
 exact⟨ret_int (by rw[HY2.out];omega),rfl⟩
set_option maxHeartbeats 2000000 in
theorem rtcosine_any (a:Nat) (w:World) (ha:a≤16200000) :
  Calls Tryz.prog 344 #[.int .i64 (a:Int)] w fun e w'=>e=.returned (.int .i64 (cosT a:Int))∧w=w':=by
 have HB:=Lib.hid (serT_bd a ha [90,56,30,12,2])
 have HA:=Lib.hid (rargument_any a w ha)
 obtain⟨u,hu⟩:∃u,uArg a=u:=⟨_,rfl⟩
 obtain⟨t,ht⟩:∃t,tArg a=t:=⟨_,rfl⟩
 have HO:Hid (∀y:Nat,serR u [90,56,30,12,2] oneT=y→cosT a=(y+1)/2):=by
  intro y hy;first|rw[←hy,←ht,←hu,cosT]|rw[←hy,←hu,cosT]
 rw[ht,hu] at HB HA
 have HU2:Hid (u≤2147483648):=by unfold Hid;have:=HB.out.2.2;omega
 have HT2:=Lib.hid HB.out.2.1
 have s0:=ser_at u [90,56,30,12,2] 0 _ HB.out.2.2 (by decide) rfl (by decide) (by decide)
 have s1:=ser_at u [90,56,30,12,2] 1 _ HB.out.2.2 (by decide) rfl (by decide) (by decide)
 have s2:=ser_at u [90,56,30,12,2] 2 _ HB.out.2.2 (by decide) rfl (by decide) (by decide)
 have s3:=ser_at u [90,56,30,12,2] 3 _ HB.out.2.2 (by decide) rfl (by decide) (by decide)
 have s4:=ser_at u [90,56,30,12,2] 4 _ HB.out.2.2 (by decide) rfl (by decide) (by decide)
 rw[ser_zero] at s0
 have HY:=HO.out (serR u ([90,56,30,12,2].take (4+1)) oneT) rfl
 have y5:Hid (serR u ([90,56,30,12,2].take (4+1)) oneT≤2147483648):=serR_top _ _ _ (Nat.le_refl _)
 generalize serR u ([90,56,30,12,2].take (0+1)) oneT=r1 at *
 generalize serR u ([90,56,30,12,2].take (1+1)) oneT=r2 at *
 generalize serR u ([90,56,30,12,2].take (2+1)) oneT=r3 at *
 generalize serR u ([90,56,30,12,2].take (3+1)) oneT=r4 at *
 generalize serR u ([90,56,30,12,2].take (4+1)) oneT=r5 at *
 have HY2:=Lib.hid HY
 have Y5:=y5
 have hm2:Hid (mulT t r5≤2147483648):=Nat.le_trans (mulT_le (show t*r5≤2147483648*2147483648 from Nat.mul_le_mul HT2.out y5.out)) (by decide)
 obtain⟨d0,hd0⟩:∃d,divT u 90=d:=⟨_,rfl⟩
 have s0':u≤1325400000∧(r1:Int)=2147483648-(d0:Int)∧(d0:Int)≤2147483648:=⟨s0.1,by rw[←hd0];exact s0.2.2.1,by rw[←hd0];exact s0.2.2.2⟩
 have D0:=Lib.hid hd0
 have S0:=Lib.hid s0'
 have Z0:Hid (r1≤2147483648):=by unfold Hid;omega
 obtain⟨d1,hd1⟩:∃d,divT (mulT u r1) 56=d:=⟨_,rfl⟩
 have s1':(mulT u r1)≤1325400000∧(r2:Int)=2147483648-(d1:Int)∧(d1:Int)≤2147483648:=⟨s1.1,by rw[←hd1];exact s1.2.2.1,by rw[←hd1];exact s1.2.2.2⟩
 have D1:=Lib.hid hd1
 have S1:=Lib.hid s1'
 have Z1:Hid (r2≤2147483648):=by unfold Hid;omega
 obtain⟨d2,hd2⟩:∃d,divT (mulT u r2) 30=d:=⟨_,rfl⟩
 have s2':(mulT u r2)≤1325400000∧(r3:Int)=2147483648-(d2:Int)∧(d2:Int)≤2147483648:=⟨s2.1,by rw[←hd2];exact s2.2.2.1,by rw[←hd2];exact s2.2.2.2⟩
 have D2:=Lib.hid hd2
 have S2:=Lib.hid s2'
 have Z2:Hid (r3≤2147483648):=by unfold Hid;omega
 obtain⟨d3,hd3⟩:∃d,divT (mulT u r3) 12=d:=⟨_,rfl⟩
 have s3':(mulT u r3)≤1325400000∧(r4:Int)=2147483648-(d3:Int)∧(d3:Int)≤2147483648:=⟨s3.1,by rw[←hd3];exact s3.2.2.1,by rw[←hd3];exact s3.2.2.2⟩
 have D3:=Lib.hid hd3
 have S3:=Lib.hid s3'
 have Z3:Hid (r4≤2147483648):=by unfold Hid;omega
 obtain⟨d4,hd4⟩:∃d,divT (mulT u r4) 2=d:=⟨_,rfl⟩
 have s4':(mulT u r4)≤1325400000∧(r5:Int)=2147483648-(d4:Int)∧(d4:Int)≤2147483648:=⟨s4.1,by rw[←hd4];exact s4.2.2.1,by rw[←hd4];exact s4.2.2.2⟩
 have D4:=Lib.hid hd4
 have S4:=Lib.hid s4'
 have Z4:Hid (r5≤2147483648):=by unfold Hid;omega
 clear s0 s1 s2 s3 s4 s0' s1' s2' s3' s4' hd0 hd1 hd2 hd3 hd4 y5 HY HO hu ht
 go_enter Tryz.func344,Tryz.ntmps344
 go_wp2_with fail
 refine HA.out.mono ?_
 rintro e w' ⟨rfl,rfl⟩
 go_wp2_with fail
 skip
 refine(rtdiv_any u 90 _ (by have:=S0.out.1;omega) (by decide) (by decide)).mono ?_
 rintro e w' ⟨rfl,rfl⟩
 rw[D0.out]
 have b0:=S0.out.2.2
 (first|go_wp2_with fail|skip)
 try rw[←S0.out.2.1]
 clear b0
 go_wp2_with fail
 refine(rtmul_any u r1 _ HU2.out Z0.out).mono ?_;rintro e w' ⟨rfl,rfl⟩;go_wp2_with fail
 refine(rtdiv_any (mulT u r1) 56 _ (by have:=S1.out.1;omega) (by decide) (by decide)).mono ?_
 rintro e w' ⟨rfl,rfl⟩
 rw[D1.out]
 have b1:=S1.out.2.2
 (first|go_wp2_with fail|skip)
 try rw[←S1.out.2.1]
 clear b1
 go_wp2_with fail
 refine(rtmul_any u r2 _ HU2.out Z1.out).mono ?_;rintro e w' ⟨rfl,rfl⟩;go_wp2_with fail
 refine(rtdiv_any (mulT u r2) 30 _ (by have:=S2.out.1;omega) (by decide) (by decide)).mono ?_
 rintro e w' ⟨rfl,rfl⟩
 rw[D2.out]
 have b2:=S2.out.2.2
 (first|go_wp2_with fail|skip)
 try rw[←S2.out.2.1]
 clear b2
 go_wp2_with fail
 refine(rtmul_any u r3 _ HU2.out Z2.out).mono ?_;rintro e w' ⟨rfl,rfl⟩;go_wp2_with fail
 refine(rtdiv_any (mulT u r3) 12 _ (by have:=S3.out.1;omega) (by decide) (by decide)).mono ?_
 rintro e w' ⟨rfl,rfl⟩
 rw[D3.out]
 have b3:=S3.out.2.2
 (first|go_wp2_with fail|skip)
 try rw[←S3.out.2.1]
 clear b3
 go_wp2_with fail
 refine(rtmul_any u r4 _ HU2.out Z3.out).mono ?_;rintro e w' ⟨rfl,rfl⟩;go_wp2_with fail
 refine(rtdiv_any (mulT u r4) 2 _ (by have:=S4.out.1;omega) (by decide) (by decide)).mono ?_
 rintro e w' ⟨rfl,rfl⟩
 rw[D4.out]
 have b4:=S4.out.2.2
 (first|go_wp2_with fail|skip)
 try rw[←S4.out.2.1]
 clear b4
 skip
 have hz:=hm2.out
 have hz2:=Z4.out
 go_wp2
 go_ret
 exact⟨ret_int (by rw[HY2.out];omega),rfl⟩
theorem tquarter_any (b:Nat) (w:World) (hb:b≤32400000) :
  Calls Tryz.prog 345 #[.int .i64 (b:Int)] w fun e w'=>e=.returned (.int .i64 (quaT b:Int))∧w=w':=by
 by_cases h:b≤16200000
 ·have HQ:Hid (quaT b=sinT b):=if_pos h
  have H:=Lib.hid h
  have h1:(b:Int)≤16200000:=by omega
  clear h hb
  go_enter Tryz.func345,Tryz.ntmps345
  go_wp2_with fail
  refine(tsine_any b _ H.out).mono ?_
  rintro e w' ⟨rfl,rfl⟩
  go_wp2
  go_ret
  exact⟨ret_int (by rw[HQ.out]),rfl⟩
 ·have HQ:Hid (quaT b=cosT (32400000-b)):=if_neg h
  obtain⟨c,hc⟩:∃c,32400000-b=c:=⟨_,rfl⟩
  have h1:(16200000:Int)<(b:Int):=by omega
  have h2:(b:Int)≤32400000:=by omega
  have HC:Hid ((32400000:Int)-(b:Int)=(c:Int)):=by unfold Hid;omega
  have HL:Hid (c≤16200000):=by unfold Hid;omega
  rw[hc] at HQ
  clear h hb hc
  go_enter Tryz.func345,Tryz.ntmps345
  go_wp2_with fail
  rw[HC.out]
  refine(tcosine_any c _ HL.out).mono ?_
  rintro e w' ⟨rfl,rfl⟩
  go_wp2
  go_ret
  exact⟨ret_int (by rw[HQ.out]),rfl⟩
theorem rtquarter_any (b:Nat) (w:World) (hb:b≤32400000) :
  Calls Tryz.prog 282 #[.int .i64 (b:Int)] w fun e w'=>e=.returned (.int .i64 (quaT b:Int))∧w=w':=by
 by_cases h:b≤16200000
 ·have HQ:Hid (quaT b=sinT b):=if_pos h
  have H:=Lib.hid h
  have h1:(b:Int)≤16200000:=by omega
  clear h hb
  go_enter Tryz.func282,Tryz.ntmps282
  go_wp2_with fail
  refine(rtsine_any b _ H.out).mono ?_
  rintro e w' ⟨rfl,rfl⟩
  go_wp2
  go_ret
  exact⟨ret_int (by rw[HQ.out]),rfl⟩
 ·have HQ:Hid (quaT b=cosT (32400000-b)):=if_neg h
  obtain⟨c,hc⟩:∃c,32400000-b=c:=⟨_,rfl⟩
  have h1:(16200000:Int)<(b:Int):=by omega
  have h2:(b:Int)≤32400000:=by omega
  have HC:Hid ((32400000:Int)-(b:Int)=(c:Int)):=by unfold Hid;omega
  have HL:Hid (c≤16200000):=by unfold Hid;omega
  rw[hc] at HQ
  clear h hb hc
  go_enter Tryz.func282,Tryz.ntmps282
  go_wp2_with fail
  rw[HC.out]
  refine(rtcosine_any c _ HL.out).mono ?_
  rintro e w' ⟨rfl,rfl⟩
  go_wp2
  go_ret
  exact⟨ret_int (by rw[HQ.out]),rfl⟩
theorem sinN_ways (b:Nat) (h:b<129600000) :
  (b≤32400000∧Hid (sinN b=(quaT b:Int)))∨(32400000<b∧b≤64800000∧Hid (sinN b=(quaT (64800000-b):Int))) ∨
  (64800000<b∧b≤97200000∧Hid (sinN b = -(quaT (b-64800000):Int)))∨(97200000<b∧Hid (sinN b = -(quaT (129600000-b):Int))):=by
 unfold sinN Hid
 by_cases h1:b≤32400000
 ·exact .inl ⟨h1,if_pos h1⟩
 ·by_cases h2:b≤64800000
  ·exact .inr (.inl ⟨by omega,h2,by rw[if_neg h1,if_pos h2]⟩)
  ·by_cases h3:b≤97200000
   ·exact .inr (.inr (.inl ⟨by omega,h3,by rw[if_neg h1,if_neg h2,if_pos h3]⟩))
   ·exact .inr (.inr (.inr ⟨by omega,by rw[if_neg h1,if_neg h2,if_neg h3]⟩))
set_option maxHeartbeats 1000000 in
theorem tSin_any (a:Int) (w:World) (h1 : -9223372036854775808≤a) (h2:a≤9223372036854775807) :
  Calls Tryz.prog 292 #[.int .i64 a] w fun e w'=>e=.returned (.int .i64 (sinZ a))∧w=w':=by
 have HN:=Lib.hid (norm_any a w h1 h2)
 have hb:=nrmN_lt a
 have HZ:Hid (sinZ a=sinN (nrmN a)):=rfl
 obtain⟨b,hbb⟩:∃b,nrmN a=b:=⟨_,rfl⟩
 rw[hbb] at HN hb HZ
 clear hbb h1 h2
 rcases sinN_ways b hb with ⟨g1,hs⟩|⟨g1,g2,hs⟩|⟨g1,g2,hs⟩|⟨g1,hs⟩
 ·have H:=Lib.hid g1
  have g:(b:Int)≤32400000:=by omega
  clear g1 hb
  go_enter Tryz.func292,Tryz.ntmps292
  go_wp2_with fail
  refine HN.out.mono ?_
  rintro e w' ⟨rfl,rfl⟩
  go_wp2_with fail
  refine(tquarter_any b _ H.out).mono ?_
  rintro e w' ⟨rfl,rfl⟩
  go_wp2
  go_ret
  exact⟨ret_int (by rw[HZ.out,hs.out]),rfl⟩
 ·obtain⟨c,hc⟩:∃c:Nat,(64800000:Int)-(b:Int)=(c:Int):=⟨((64800000:Int)-(b:Int)).toNat,by omega⟩
  have HC:=Lib.hid hc
  have HS:Hid (sinN b=(if 1=1 then (quaT c:Int) else -(quaT c:Int))):=by
   unfold Hid
   rw[hs.out]
   first
    | rw[if_pos (by omega),show 64800000-b=c by omega]
    | rw[if_neg (by omega),show b-64800000=c by omega]
    | rw[if_neg (by omega),show 129600000-b=c by omega]
  have HL:Hid (c≤32400000):=by unfold Hid;omega
  have g3:(32400000:Int)<(b:Int):=by omega
  have g4:(b:Int)≤64800000:=by omega
  clear g1 hb hc hs
  try clear g2
  go_enter Tryz.func292,Tryz.ntmps292
  go_wp2_with fail
  refine HN.out.mono ?_
  rintro e w' ⟨rfl,rfl⟩
  go_wp2_with fail
  rw[HC.out]
  refine(tquarter_any c _ HL.out).mono ?_
  rintro e w' ⟨rfl,rfl⟩
  skip
  go_wp2
  go_ret
  exact⟨ret_int (by rw[HZ.out,HS.out];rfl),rfl⟩
 ·obtain⟨c,hc⟩:∃c:Nat,(b:Int)-64800000=(c:Int):=⟨((b:Int)-64800000).toNat,by omega⟩
  have HC:=Lib.hid hc
  have HS:Hid (sinN b=(if 2=1 then (quaT c:Int) else -(quaT c:Int))):=by
   unfold Hid
   rw[hs.out]
   first
    | rw[if_pos (by omega),show 64800000-b=c by omega]
    | rw[if_neg (by omega),show b-64800000=c by omega]
    | rw[if_neg (by omega),show 129600000-b=c by omega]
  have HL:Hid (c≤32400000):=by unfold Hid;omega
  have g3:(64800000:Int)<(b:Int):=by omega
  have g4:(b:Int)≤97200000:=by omega
  clear g1 hb hc hs
  try clear g2
  go_enter Tryz.func292,Tryz.ntmps292
  go_wp2_with fail
  refine HN.out.mono ?_
  rintro e w' ⟨rfl,rfl⟩
  go_wp2_with fail
  rw[HC.out]
  refine(tquarter_any c _ HL.out).mono ?_
  rintro e w' ⟨rfl,rfl⟩
  have hq:(quaT c:Int)≤1073741824:=by have:=quaT_le c;omega
  go_wp2
  go_ret
  exact⟨ret_int (by rw[HZ.out,HS.out];rfl),rfl⟩
 ·obtain⟨c,hc⟩:∃c:Nat,(129600000:Int)-(b:Int)=(c:Int):=⟨((129600000:Int)-(b:Int)).toNat,by omega⟩
  have HC:=Lib.hid hc
  have HS:Hid (sinN b=(if 3=1 then (quaT c:Int) else -(quaT c:Int))):=by
   unfold Hid
   rw[hs.out]
   first
    | rw[if_pos (by omega),show 64800000-b=c by omega]
    | rw[if_neg (by omega),show b-64800000=c by omega]
    | rw[if_neg (by omega),show 129600000-b=c by omega]
  have HL:Hid (c≤32400000):=by unfold Hid;omega
  have g3:(97200000:Int)<(b:Int):=by omega
  have g4:(b:Int)≤129600000:=by omega
  clear g1 hb hc hs
  try clear g2
  go_enter Tryz.func292,Tryz.ntmps292
  go_wp2_with fail
  refine HN.out.mono ?_
  rintro e w' ⟨rfl,rfl⟩
  go_wp2_with fail
  rw[HC.out]
  refine(tquarter_any c _ HL.out).mono ?_
  rintro e w' ⟨rfl,rfl⟩
  have hq:(quaT c:Int)≤1073741824:=by have:=quaT_le c;omega
  go_wp2
  go_ret
  exact⟨ret_int (by rw[HZ.out,HS.out];rfl),rfl⟩
set_option maxHeartbeats 1000000 in
theorem rtSin_any (a:Int) (w:World) (h1 : -9223372036854775808≤a) (h2:a≤9223372036854775807) :
  Calls Tryz.prog 209 #[.int .i64 a] w fun e w'=>e=.returned (.int .i64 (sinZ a))∧w=w':=by
 have HN:=Lib.hid (rnorm_any a w h1 h2)
 have hb:=nrmN_lt a
 have HZ:Hid (sinZ a=sinN (nrmN a)):=rfl
 obtain⟨b,hbb⟩:∃b,nrmN a=b:=⟨_,rfl⟩
 rw[hbb] at HN hb HZ
 clear hbb h1 h2
 rcases sinN_ways b hb with ⟨g1,hs⟩|⟨g1,g2,hs⟩|⟨g1,g2,hs⟩|⟨g1,hs⟩
 ·have H:=Lib.hid g1
  have g:(b:Int)≤32400000:=by omega
  clear g1 hb
  go_enter Tryz.func209,Tryz.ntmps209
  go_wp2_with fail
  refine HN.out.mono ?_
  rintro e w' ⟨rfl,rfl⟩
  go_wp2_with fail
  refine(rtquarter_any b _ H.out).mono ?_
  rintro e w' ⟨rfl,rfl⟩
  go_wp2
  go_ret
  exact⟨ret_int (by rw[HZ.out,hs.out]),rfl⟩
 ·obtain⟨c,hc⟩:∃c:Nat,(64800000:Int)-(b:Int)=(c:Int):=⟨((64800000:Int)-(b:Int)).toNat,by omega⟩
  have HC:=Lib.hid hc
  have HS:Hid (sinN b=(if 1=1 then (quaT c:Int) else -(quaT c:Int))):=by
   unfold Hid
   rw[hs.out]
   first
    | rw[if_pos (by omega),show 64800000-b=c by omega]
    | rw[if_neg (by omega),show b-64800000=c by omega]
    | rw[if_neg (by omega),show 129600000-b=c by omega]
  have HL:Hid (c≤32400000):=by unfold Hid;omega
  have g3:(32400000:Int)<(b:Int):=by omega
  have g4:(b:Int)≤64800000:=by omega
  clear g1 hb hc hs
  try clear g2
  go_enter Tryz.func209,Tryz.ntmps209
  go_wp2_with fail
  refine HN.out.mono ?_
  rintro e w' ⟨rfl,rfl⟩
  go_wp2_with fail
  rw[HC.out]
  refine(rtquarter_any c _ HL.out).mono ?_
  rintro e w' ⟨rfl,rfl⟩
  skip
  go_wp2
  go_ret
  exact⟨ret_int (by rw[HZ.out,HS.out];rfl),rfl⟩
 ·obtain⟨c,hc⟩:∃c:Nat,(b:Int)-64800000=(c:Int):=⟨((b:Int)-64800000).toNat,by omega⟩
  have HC:=Lib.hid hc
  have HS:Hid (sinN b=(if 2=1 then (quaT c:Int) else -(quaT c:Int))):=by
   unfold Hid
   rw[hs.out]
   first
    | rw[if_pos (by omega),show 64800000-b=c by omega]
    | rw[if_neg (by omega),show b-64800000=c by omega]
    | rw[if_neg (by omega),show 129600000-b=c by omega]
  have HL:Hid (c≤32400000):=by unfold Hid;omega
  have g3:(64800000:Int)<(b:Int):=by omega
  have g4:(b:Int)≤97200000:=by omega
  clear g1 hb hc hs
  try clear g2
  go_enter Tryz.func209,Tryz.ntmps209
  go_wp2_with fail
  refine HN.out.mono ?_
  rintro e w' ⟨rfl,rfl⟩
  go_wp2_with fail
  rw[HC.out]
  refine(rtquarter_any c _ HL.out).mono ?_
  rintro e w' ⟨rfl,rfl⟩
  have hq:(quaT c:Int)≤1073741824:=by have:=quaT_le c;omega
  go_wp2
  go_ret
  exact⟨ret_int (by rw[HZ.out,HS.out];rfl),rfl⟩
 ·obtain⟨c,hc⟩:∃c:Nat,(129600000:Int)-(b:Int)=(c:Int):=⟨((129600000:Int)-(b:Int)).toNat,by omega⟩
  have HC:=Lib.hid hc
  have HS:Hid (sinN b=(if 3=1 then (quaT c:Int) else -(quaT c:Int))):=by
   unfold Hid
   rw[hs.out]
   first
    | rw[if_pos (by omega),show 64800000-b=c by omega]
    | rw[if_neg (by omega),show b-64800000=c by omega]
    | rw[if_neg (by omega),show 129600000-b=c by omega]
  have HL:Hid (c≤32400000):=by unfold Hid;omega
  have g3:(97200000:Int)<(b:Int):=by omega
  have g4:(b:Int)≤129600000:=by omega
  clear g1 hb hc hs
  try clear g2
  go_enter Tryz.func209,Tryz.ntmps209
  go_wp2_with fail
  refine HN.out.mono ?_
  rintro e w' ⟨rfl,rfl⟩
  go_wp2_with fail
  rw[HC.out]
  refine(rtquarter_any c _ HL.out).mono ?_
  rintro e w' ⟨rfl,rfl⟩
  have hq:(quaT c:Int)≤1073741824:=by have:=quaT_le c;omega
  go_wp2
  go_ret
  exact⟨ret_int (by rw[HZ.out,HS.out];rfl),rfl⟩
theorem quarter_nrm:nrmN 32400000=32400000:=rfl
theorem tCos_any (a:Int) (w:World) (h1 : -9223372036854775808≤a) (h2:a≤9223372036854775807) :
  Calls Tryz.prog 293 #[.int .i64 a] w fun e w'=>e=.returned (.int .i64 (cosZ a))∧w=w':=by
 have HC:Hid (cosZ a=sinZ (nrmN ((nrmN a:Int)+(nrmN 32400000:Int)):Int)):=by
  unfold Hid cosZ
  unfold sinZ
  rw[nrmN_small (nrmN_lt _),quarter_nrm];rfl
 have HB:=Lib.hid (nrmN_lt ((nrmN a:Int)+(nrmN 32400000:Int)))
 go_enter Tryz.func293,Tryz.ntmps293
 go_wp2_with fail
 refine(turn_any a 32400000 _ h1 h2 (by omega) (by omega)).mono ?_
 rintro e w' ⟨rfl,rfl⟩
 go_wp2_with fail
 refine(tSin_any _ _ (by omega) (by have:=HB.out;omega)).mono ?_
 rintro e w' ⟨rfl,rfl⟩
 go_wp2
 go_ret
 exact⟨ret_int HC.out.symm,rfl⟩
theorem rtCos_any (a:Int) (w:World) (h1 : -9223372036854775808≤a) (h2:a≤9223372036854775807) :
  Calls Tryz.prog 208 #[.int .i64 a] w fun e w'=>e=.returned (.int .i64 (cosZ a))∧w=w':=by
 have HC:Hid (cosZ a=sinZ (nrmN ((nrmN a:Int)+(nrmN 32400000:Int)):Int)):=by
  unfold Hid cosZ
  unfold sinZ
  rw[nrmN_small (nrmN_lt _),quarter_nrm];rfl
 have HB:=Lib.hid (nrmN_lt ((nrmN a:Int)+(nrmN 32400000:Int)))
 go_enter Tryz.func208,Tryz.ntmps208
 go_wp2_with fail
 refine(rturn_any a 32400000 _ h1 h2 (by omega) (by omega)).mono ?_
 rintro e w' ⟨rfl,rfl⟩
 go_wp2_with fail
 refine(rtSin_any _ _ (by omega) (by have:=HB.out;omega)).mono ?_
 rintro e w' ⟨rfl,rfl⟩
 go_wp2
 go_ret
 exact⟨ret_int HC.out.symm,rfl⟩
end Go.Proofs.YtgmehlgfilpleaaGreatDoor
