/-
  Several texts as one.
-/
import Derived.Test.YtgmehlgfilpleaaGreatDoorBase
namespace Go.Proofs.YtgmehlgfilpleaaGreatDoor
set_option linter.unusedVariables false
set_option linter.unusedSimpArgs false

def mulT (x y:Nat):Nat:=(x*y+1073741824)/2147483648
def divT (x n:Nat):Nat:=(x+n/2)/n
def tArg (a:Nat):Nat:=(a*6746518852+32400000)/64800000
def oneT:Nat:=2147483648
def serR (u:Nat) (ns:List Nat) (r:Nat):Nat:=ns.foldl (fun r n=>oneT-divT (mulT u r) n) r
theorem serR_cons (u n:Nat) (ns:List Nat) (r:Nat):serR u (n::ns) r=serR u ns (oneT-divT (mulT u r) n):=by unfold serR;rw[List.foldl_cons]
theorem serR_nil (u r:Nat):serR u [] r=r:=by unfold serR;rw[List.foldl_nil]
def uArg (a:Nat):Nat:=mulT (tArg a) (tArg a)
def sinT (a:Nat):Nat:=(mulT (tArg a) (serR (uArg a) [110,72,42,20,6] oneT)+1)/2
def cosT (a:Nat):Nat:=(serR (uArg a) [90,56,30,12,2] oneT+1)/2
theorem mulT_le {x y x' y':Nat} (h:x*y≤x'*y'):mulT x y≤mulT x' y':=by unfold mulT;omega
theorem mulT_add {x y x' y' d:Nat} (h:x'*y'≤x*y+d*2147483648):mulT x' y'≤mulT x y+d:=by unfold mulT;omega
theorem divT_le {x x' n:Nat} (h:x≤x'):divT x n≤divT x' n:=by unfold divT;exact Nat.div_le_div_right (by omega)
theorem divT_add {x x' n d:Nat} (hn:0<n) (h:x'≤x+d*n):divT x' n≤divT x n+d:=by
 unfold divT
 rw[←Nat.add_mul_div_right _ _ hn]
 exact Nat.div_le_div_right (by omega)
theorem divT_half {x n:Nat} (hn:2≤n):2*divT x n≤x+2:=by
 unfold divT
 have h1:(x+n/2)/n≤(x+n/2)/n:=Nat.le_refl _
 have h2:(x+n/2)/n*n≤x+n/2:=Nat.div_mul_le_self _ _
 rcases Nat.eq_zero_or_pos ((x+n/2)/n) with h0|h0
 ·omega
 ·obtain⟨q,hq⟩:∃q,(x+n/2)/n=q:=⟨_,rfl⟩
  rw[hq] at h2 h0 ⊢
  obtain⟨p,rfl⟩:∃p,q=p+1:=⟨q-1,by omega⟩
  rw[Nat.add_mul,Nat.one_mul] at h2
  have h3:p*2≤p*n:=Nat.mul_le_mul_left p hn
  omega
theorem mulT_small {u r:Nat} (h:r≤2147483648):mulT u r≤u:=by
 have h1:u*r≤u*2147483648:=Nat.mul_le_mul_left u h
 unfold mulT
 omega
structure NearT (u d r r':Nat):Prop where
 le:r'≤r
 near:r≤r'+d
 top:r≤2147483648
 big:1484000000≤r'
theorem near_mul {u d r r':Nat} (h:NearT u d r r') (hu:u+d≤1325400000):u*r≤(u+d)*r'∧(u+d)*r'≤u*r+d*2147483648:=by
 obtain⟨h1,h2,h3,h4⟩:=h
 obtain⟨e,rfl⟩:∃e,r=r'+e:=⟨r-r',by omega⟩
 rw[Nat.mul_add,Nat.add_mul]
 have h5:u*e≤u*d:=Nat.mul_le_mul_left u (by omega)
 have h6:d*u≤d*r':=Nat.mul_le_mul_left d (by omega)
 have h7:d*r'≤d*2147483648:=Nat.mul_le_mul_left d (by omega)
 rw[Nat.mul_comm d u] at h6
 omega
theorem near_step {u d r r' n:Nat} (h:NearT u d r r') (hu:u+d≤1325400000) (hn:2≤n):NearT u d (oneT-divT (mulT u r) n) (oneT-divT (mulT (u+d) r') n):=by
 have hm:=near_mul h hu
 have h1:=mulT_le hm.1
 have h2:=mulT_add hm.2
 have h3:=divT_le (n:=n) h1
 have h4:divT (mulT (u+d) r') n≤divT (mulT u r) n+d:=divT_add (by omega) (Nat.le_trans h2 (Nat.add_le_add_left (Nat.le_mul_of_pos_right d (by omega)) _))
 have h5:=divT_half (x:=mulT (u+d) r') hn
 have h6:=mulT_small (u:=u+d) (r:=r') (by have:=h.le;have:=h.top;omega)
 have h7:oneT=2147483648:=rfl
 exact⟨by omega,by omega,by omega,by omega⟩
theorem near_half {u d r r' n s:Nat} (h:NearT u d r r') (hu:u+d≤1325400000) (hn:2≤n) (hd:d≤2*s):oneT-divT (mulT u r) n≤oneT-divT (mulT (u+d) r') n+s:=by
 have hm:=near_mul h hu
 have h2:=mulT_add hm.2
 have h4:divT (mulT (u+d) r') n≤divT (mulT u r) n+s:=divT_add (by omega) (Nat.le_trans h2 (Nat.add_le_add_left (Nat.le_trans hd (by rw[Nat.mul_comm];exact Nat.mul_le_mul_left s hn)) _))
 omega
theorem near_start (u d:Nat):NearT u d oneT oneT:=by
 have:oneT=2147483648:=rfl
 exact⟨by omega,by omega,by omega,by omega⟩
theorem near_all {u d:Nat} (hu:u+d≤1325400000) (ns:List Nat):∀(r r':Nat),(∀n∈ns,2≤n)→NearT u d r r'→NearT u d (serR u ns r) (serR (u+d) ns r'):=by
 induction ns with
 | nil=>intro r r' _ h;rw[serR_nil,serR_nil];exact h
 | cons n ns ih =>
  intro r r' hn h
  rw[serR_cons,serR_cons]
  exact ih _ _ (fun x hx=>hn x (List.mem_cons_of_mem _ hx)) (near_step h hu (hn n (by simp)))
theorem serR_snoc (u:Nat) (ns:List Nat):∀(r n:Nat),serR u (ns++[n]) r=oneT-divT (mulT u (serR u ns r)) n:=by
 induction ns with
 | nil=>intro r n;rw[List.nil_append,serR_cons,serR_nil,serR_nil]
 | cons m ns ih=>intro r n;rw[List.cons_append,serR_cons,serR_cons];exact ih _ n
theorem tArg_mono {a b:Nat} (h:a≤b):tArg a≤tArg b:=by unfold tArg;omega
theorem tArg_top {a:Nat} (h:a≤16200000):tArg a≤1686629714:=by unfold tArg;omega
theorem uArg_mono {a b:Nat} (h:a≤b):uArg a≤uArg b:=mulT_le (Nat.mul_le_mul (tArg_mono h) (tArg_mono h))
theorem uArg_top {a:Nat} (h:a≤16200000):uArg a≤1325400000:=by
 have h1:=tArg_top h
 have h2:tArg a*tArg a≤1686629714*1686629714:=Nat.mul_le_mul h1 h1
 unfold uArg mulT
 omega
theorem cosT_anti {a b:Nat} (h:a≤b) (hb:b≤16200000):cosT b≤cosT a:=by
 obtain⟨d,hd⟩:∃d,uArg b=uArg a+d:=⟨uArg b-uArg a,by have:=uArg_mono h;omega⟩
 have hu:=uArg_top hb
 rw[hd] at hu
 have hn:=near_all hu [90,56,30,12,2] _ _ (by decide) (near_start _ _)
 unfold cosT
 rw[hd]
 have:=hn.le
 omega
theorem sinT_mono {a b:Nat} (h:a≤b) (hb:b≤16200000):sinT a≤sinT b:=by
 obtain⟨d,hd⟩:∃d,uArg b=uArg a+d:=⟨uArg b-uArg a,by have:=uArg_mono h;omega⟩
 obtain⟨s,hs⟩:∃s,tArg b=tArg a+s:=⟨tArg b-tArg a,by have:=tArg_mono h;omega⟩
 have hu:=uArg_top hb
 have ht:=tArg_top hb
 rw[hd] at hu
 have hd2:d≤2*s:=by
  have h1:tArg b*tArg b≤tArg a*tArg a+2*s*2147483648:=by
   rw[hs]
   rw[hs] at ht
   rw[Nat.mul_add,Nat.add_mul,Nat.add_mul]
   have h2:s*tArg a≤s*1686629714:=Nat.mul_le_mul_left s (by omega)
   have h3:(tArg a+s)*s≤1686629714*s:=Nat.mul_le_mul_right s ht
   rw[Nat.add_mul] at h3
   omega
  have h2:=mulT_add h1
  unfold uArg at hd
  omega
 have hn:=near_all hu [110,72,42,20] _ _ (by decide) (near_start _ _)
 have hn5:=near_step hn hu (n:=6) (by decide)
 have hn6:=near_half hn hu (n:=6) (by decide) hd2
 have e1:∀u,serR u [110,72,42,20,6] oneT=oneT-divT (mulT u (serR u [110,72,42,20] oneT)) 6:=fun u=>serR_snoc u [110,72,42,20] oneT 6
 unfold sinT
 rw[e1,e1,hd]
 obtain⟨R,hR⟩:∃R,oneT-divT (mulT (uArg a) (serR (uArg a) [110,72,42,20] oneT)) 6=R:=⟨_,rfl⟩
 have hbig:1900000000≤oneT-divT (mulT (uArg a+d) (serR (uArg a+d) [110,72,42,20] oneT)) 6:=by
  have h6:=mulT_small (u:=uArg a+d) (r:=serR (uArg a+d) [110,72,42,20] oneT) (by have:=hn.le;have:=hn.top;omega)
  have h7:oneT=2147483648:=rfl
  unfold divT
  omega
 obtain⟨R',hR'⟩:∃R',oneT-divT (mulT (uArg a+d) (serR (uArg a+d) [110,72,42,20] oneT)) 6=R':=⟨_,rfl⟩
 rw[hR] at hn5 hn6 ⊢
 rw[hR'] at hn5 hn6 hbig ⊢
 have hle:=hn5.le
 have hm:tArg a*R≤tArg b*R':=by
  rw[hs] at ht ⊢
  obtain⟨e,rfl⟩:∃e,R=R'+e:=⟨R-R',by omega⟩
  rw[Nat.mul_add,Nat.add_mul]
  have h5:tArg a*e≤tArg a*s:=Nat.mul_le_mul_left _ (by omega)
  have h6:s*tArg a≤s*R':=Nat.mul_le_mul_left s (by omega)
  rw[Nat.mul_comm s (tArg a)] at h6
  omega
 have:=mulT_le hm
 omega
theorem serR_top (ns:List Nat):∀(r u:Nat),r≤2147483648→serR u ns r≤2147483648:=by
 induction ns with
 | nil=>intro r u h;rw[serR_nil];exact h
 | cons n ns ih=>intro r u h;rw[serR_cons];exact ih _ _ (Nat.sub_le _ _)
theorem cosT_top (a:Nat):cosT a≤1073741824:=by
 have h:=serR_top [90,56,30,12,2] oneT (uArg a) (Nat.le_refl _)
 unfold cosT
 omega
theorem sinT_top {a:Nat} (h:a≤16200000):sinT a≤900000000:=by
 have h1:=mulT_small (u:=tArg a) (r:=serR (uArg a) [110,72,42,20,6] oneT) (serR_top _ _ _ (Nat.le_refl _))
 have h2:=tArg_top h
 unfold sinT
 omega

def nrmN (a:Int):Nat:=(a%129600000).toNat
def quaT (b:Nat):Nat:=if b≤16200000 then sinT b else cosT (32400000-b)
def sinN (b:Nat):Int:=if b≤32400000 then (quaT b:Int) else if b≤64800000 then (quaT (64800000-b):Int) else if b≤97200000 then -(quaT (b-64800000):Int) else -(quaT (129600000-b):Int)
def sinZ (a:Int):Int:=sinN (nrmN a)
def cosZ (a:Int):Int:=sinZ ((nrmN a:Int)+32400000)
theorem nrmN_lt (a:Int):nrmN a<129600000:=by unfold nrmN;omega
theorem nrmN_small {c:Nat} (h:c<129600000):nrmN (c:Int)=c:=by unfold nrmN;omega
theorem quaT_le (b:Nat):quaT b≤1073741824:=by
 unfold quaT;split
 ·rename_i h;have:=sinT_top h;omega
 ·exact cosT_top _
theorem sinN_bd (b:Nat) : -1073741824≤sinN b∧sinN b≤1073741824:=by
 unfold sinN
 have h1:=quaT_le b
 have h2:=quaT_le (64800000-b)
 have h3:=quaT_le (b-64800000)
 have h4:=quaT_le (129600000-b)
 split
 ·omega
 ·split
  ·omega
  ·split <;> omega
theorem sinZ_bd (a:Int) : -1073741824≤sinZ a∧sinZ a≤1073741824:=sinN_bd _
theorem cosZ_bd (a:Int) : -1073741824≤cosZ a∧cosZ a≤1073741824:=by unfold cosZ;exact sinZ_bd _
def cosE (c:Nat):Nat:=if c<16200000 then cosT c else sinT 16200000
theorem quaT_other {r:Nat} (h:r≤16200000):quaT r=sinT r∧quaT (32400000-r)=cosE r:=by
 unfold quaT cosE
 refine⟨if_pos h,?_⟩
 by_cases h2:r<16200000
 ·rw[if_neg (by omega),if_pos h2,show 32400000-(32400000-r)=r by omega]
 ·obtain rfl:r=16200000:=by omega
  rw[if_pos (by omega),if_neg (by omega)]
theorem cosN_eq (b:Nat) (h:b<129600000):sinN (nrmN ((b:Int)+32400000))=if b≤32400000 then (quaT (32400000-b):Int) else if b≤64800000 then -(quaT (b-32400000):Int) else if b≤97200000 then (if b=97200000 then (quaT 0:Int) else -(quaT (97200000-b):Int)) else (quaT (b-97200000):Int):=by
 have e:nrmN ((b:Int)+32400000)=if b<97200000 then b+32400000 else b-97200000:=by unfold nrmN;split <;> omega
 rw[e]
 by_cases h1:b≤32400000
 ·rw[if_pos (by omega),if_pos h1]
  unfold sinN
  by_cases h2:b=0
  ·subst h2;rfl
  ·rw[if_neg (by omega),if_pos (by omega),show 64800000-(b+32400000)=32400000-b by omega]
 ·rw[if_neg h1]
  by_cases h2:b≤64800000
  ·rw[if_pos (by omega),if_pos h2]
   unfold sinN
   rw[if_neg (by omega),if_neg (by omega),if_pos (by omega),show b+32400000-64800000=b-32400000 by omega]
  ·rw[if_neg h2]
   by_cases h3:b<97200000
   ·rw[if_pos h3,if_pos (by omega),if_neg (by omega)]
    unfold sinN
    rw[if_neg (by omega),if_neg (by omega),if_neg (by omega),show 129600000-(b+32400000)=97200000-b by omega]
   ·rw[if_neg h3]
    unfold sinN
    by_cases h4:b=97200000
    ·subst h4;rfl
    ·rw[if_pos (by omega),if_neg (by omega)]
theorem evalS:sinT 16200000=759250125:=by decide +kernel
theorem evalC:cosT 16199999=759250162:=by decide +kernel
theorem evalS30:sinT 10800000=536870912:=by decide +kernel
theorem evalC30:cosT 10800000=929887697:=by decide +kernel
theorem cosE_anti {i j:Nat} (h:i≤j) (hj:j≤16200000):cosE j≤cosE i:=by
 unfold cosE
 by_cases h1:j<16200000
 ·rw[if_pos h1,if_pos (by omega)];exact cosT_anti h hj
 ·rw[if_neg h1]
  by_cases h2:i<16200000
  ·rw[if_pos h2,evalS]
   have:=cosT_anti (a:=i) (b:=16199999) (by omega) (by omega)
   rw[evalC] at this
   omega
  ·rw[if_neg h2];exact Nat.le_refl _
theorem two_sides (a:Int):∃r,r≤16200000∧((sinZ a).natAbs=sinT r∧(cosZ a).natAbs=cosE r∨(sinZ a).natAbs=cosE r∧(cosZ a).natAbs=sinT r):=by
 have key:∃r,r≤32400000∧(sinZ a).natAbs=quaT r∧(cosZ a).natAbs=quaT (32400000-r):=by
  have hb:=nrmN_lt a
  unfold cosZ
  show ∃r,r≤32400000∧(sinN (nrmN a)).natAbs=quaT r∧(sinN (nrmN ((nrmN a:Int)+32400000))).natAbs=quaT (32400000-r)
  rw[cosN_eq _ hb]
  generalize nrmN a=b at hb
  unfold sinN
  by_cases h1:b≤32400000
  ·rw[if_pos h1,if_pos h1]
   exact⟨b,h1,by omega,by omega⟩
  ·rw[if_neg h1,if_neg h1]
   by_cases h2:b≤64800000
   ·rw[if_pos h2,if_pos h2]
    exact⟨64800000-b,by omega,by omega,by rw[show 32400000-(64800000-b)=b-32400000 by omega];omega⟩
   ·rw[if_neg h2,if_neg h2]
    by_cases h3:b≤97200000
    ·rw[if_pos h3,if_pos h3]
     refine⟨b-64800000,by omega,by omega,?_⟩
     rw[show 32400000-(b-64800000)=97200000-b by omega]
     split
     ·rename_i h4;subst h4;rfl
     ·omega
    ·rw[if_neg h3,if_neg h3]
     exact⟨129600000-b,by omega,by omega,by rw[show 32400000-(129600000-b)=b-97200000 by omega];omega⟩
 obtain⟨r,hr,h1,h2⟩:=key
 rcases Nat.lt_or_ge r 16200000 with h|h
 ·exact⟨r,by omega,.inl ⟨by rw[h1,(quaT_other (Nat.le_of_lt h)).1],by rw[h2,(quaT_other (Nat.le_of_lt h)).2]⟩⟩
 ·have hq:=quaT_other (r:=32400000-r) (by omega)
  rw[show 32400000-(32400000-r)=r by omega] at hq
  exact⟨32400000-r,by omega,.inr ⟨by rw[h1,hq.2],by rw[h2,hq.1]⟩⟩
theorem sq_le {a b:Nat} (h:a≤b):a*a≤b*b:=Nat.mul_le_mul h h
theorem part_bd {r:Nat} (h:r≤16200000):853000000000000000≤sinT r*sinT r+cosE r*cosE r∧sinT r*sinT r+cosE r*cosE r≤1450000000000000000:=by
 have hs:=sinT_mono (a:=r) (b:=16200000) h (Nat.le_refl _)
 rw[evalS] at hs
 have hc:=cosE_anti (i:=r) (j:=16200000) h (Nat.le_refl _)
 have e1:cosE 16200000=759250125:=by unfold cosE;rw[if_neg (by omega),evalS]
 rw[e1] at hc
 rcases Nat.le_total r 10800000 with h30|h30
 ·have hs2:=sinT_mono (a:=r) (b:=10800000) h30 (by omega)
  rw[evalS30] at hs2
  have hc2:=cosE_anti (i:=r) (j:=10800000) h30 (by omega)
  have e2:cosE 10800000=929887697:=by unfold cosE;rw[if_pos (by omega),evalC30]
  rw[e2] at hc2
  have hc3:cosE r≤1073741824:=by unfold cosE;rw[if_pos (by omega)];exact cosT_top r
  have k1:=sq_le hs2
  have k2:=sq_le hc2
  have k3:=sq_le hc3
  omega
 ·have hs2:=sinT_mono (a:=10800000) (b:=r) h30 h
  rw[evalS30] at hs2
  have hc2:=cosE_anti (i:=10800000) (j:=r) h30 h
  have e2:cosE 10800000=929887697:=by unfold cosE;rw[if_pos (by omega),evalC30]
  rw[e2] at hc2
  have k1:=sq_le hs2
  have k2:=sq_le hs
  have k3:=sq_le hc
  have k4:=sq_le hc2
  omega
theorem sq_abs (x:Int):x*x=((x.natAbs*x.natAbs:Nat):Int):=by rw[Int.natCast_mul,←Int.natAbs_mul_self' x]
theorem circ_bd (a:Int):853000000000000000≤sinZ a*sinZ a+cosZ a*cosZ a∧sinZ a*sinZ a+cosZ a*cosZ a≤1450000000000000000:=by
 obtain⟨r,hr,h⟩:=two_sides a
 have hp:=part_bd hr
 rw[sq_abs (sinZ a),sq_abs (cosZ a)]
 rcases h with ⟨h1,h2⟩|⟨h1,h2⟩
 ·rw[h1,h2];omega
 ·rw[h1,h2];omega
def rnd (x:Int):Int:=(x+536870912)/1073741824
theorem rnd_bd (x:Int):rnd x*1073741824≤x+536870912∧x+536870912<rnd x*1073741824+1073741824:=by unfold rnd;omega
theorem mul_bd {a b A B:Int} (h1 : -A≤a) (h2:a≤A) (h3 : -B≤b) (h4:b≤B) : -(A*B)≤a*b∧a*b≤A*B:=by
 have e1:0≤(A-a)*(B-b):=Int.mul_nonneg (by omega) (by omega)
 have e2:0≤(A+a)*(B+b):=Int.mul_nonneg (by omega) (by omega)
 have e3:0≤(A-a)*(B+b):=Int.mul_nonneg (by omega) (by omega)
 have e4:0≤(A+a)*(B-b):=Int.mul_nonneg (by omega) (by omega)
 constructor <;> grind
theorem rnd_sq {X:Int} (h1 : -2305843009213693952≤X) (h2:X≤2305843009213693952) :
  X*X-2475880078570760549798248448≤rnd X*rnd X*1152921504606846976∧rnd X*rnd X*1152921504606846976≤X*X+2475880366801136701509959680:=by
 have hr:=rnd_bd X
 obtain⟨d,hd⟩:∃d,rnd X*1073741824-X=d:=⟨_,rfl⟩
 have e:=mul_bd (a:=d) (b:=X) (A:=536870912) (B:=2305843009213693952) (by omega) (by omega) h1 h2
 have e2:=mul_bd (a:=d) (b:=d) (A:=536870912) (B:=536870912) (by omega) (by omega) (by omega) (by omega)
 have e3:0≤d*d:=by rw[sq_abs];omega
 have hk:rnd X*rnd X*1152921504606846976=X*X+2*(d*X)+d*d:=by
  have:rnd X*1073741824=X+d:=by omega
  have h3:(rnd X*1073741824)*(rnd X*1073741824)=(X+d)*(X+d):=by rw[this]
  grind
 omega
theorem sq_nonneg (x:Int):0≤x*x:=by rw[sq_abs];omega
theorem abs_of_sq {x K:Int} (hK:0≤K) (h:x*x≤K*K) : -K≤x∧x≤K:=by
 have e:(K+1)*(K+1)=K*K+2*K+1:=by grind
 constructor
 ·by_cases h1:x < -K
  ·have:=Int.mul_le_mul (a:=K+1) (b:=K+1) (c := -x) (d := -x) (by omega) (by omega) (by omega) (by omega)
   rw[Int.neg_mul_neg] at this
   omega
  ·omega
 ·by_cases h1:K<x
  ·have:=Int.mul_le_mul (a:=K+1) (b:=K+1) (c:=x) (d:=x) (by omega) (by omega) (by omega) (by omega)
   omega
  ·omega
structure V3 where
 x:Int
 y:Int
 z:Int
def vecOf (la lo:Int):V3:=⟨rnd (cosZ la*cosZ lo),rnd (cosZ la*sinZ lo),sinZ la⟩
def V3.dot (u v:V3):Int:=u.x*v.x+u.y*v.y+u.z*v.z
def V3.c1 (u v:V3):Int:=u.y*v.z-u.z*v.y
def V3.c2 (u v:V3):Int:=u.z*v.x-u.x*v.z
def V3.c3 (u v:V3):Int:=u.x*v.y-u.y*v.x
def V3.sq (u:V3):Int:=u.x*u.x+u.y*u.y+u.z*u.z
theorem lagrange (u v:V3):u.dot v*u.dot v+(u.c1 v*u.c1 v+u.c2 v*u.c2 v+u.c3 v*u.c3 v)=u.sq*v.sq:=by
 unfold V3.dot V3.c1 V3.c2 V3.c3 V3.sq;grind
structure V3.Ok (u:V3):Prop where
 x : -1073741824≤u.x∧u.x≤1073741824
 y : -1073741824≤u.y∧u.y≤1073741824
 z : -1073741824≤u.z∧u.z≤1073741824
 lo:631000000000000000≤u.sq
 hi:u.sq≤1824000000000000000
theorem rnd_unit {X:Int} (h1 : -1152921504606846976≤X) (h2:X≤1152921504606846976) : -1073741824≤rnd X∧rnd X≤1073741824:=by unfold rnd;omega
theorem prod_bd (a b:Int) (h1 : -1073741824≤a∧a≤1073741824) (h2 : -1073741824≤b∧b≤1073741824) : -1152921504606846976≤a*b∧a*b≤1152921504606846976 :=
 mul_bd h1.1 h1.2 h2.1 h2.2
theorem vec_lin {P Q A B T C S:Int} (r1:A-2475880078570760549798248448≤P*1152921504606846976∧P*1152921504606846976≤A+2475880366801136701509959680)
  (r2:B-2475880078570760549798248448≤Q*1152921504606846976∧Q*1152921504606846976≤B+2475880366801136701509959680) (hp:A+B=T) (hu:T≤C*1450000000000000000) (hl:C*853000000000000000≤T)
  (ca:853000000000000000≤S+C∧S+C≤1450000000000000000) (hC:0≤C) (hS:0≤S):631000000000000000≤P+Q+S∧P+Q+S≤1824000000000000000:=by
 omega
theorem vec_ok (la lo:Int):(vecOf la lo).Ok:=by
 have hx:=prod_bd _ _ (cosZ_bd la) (cosZ_bd lo)
 have hy:=prod_bd _ _ (cosZ_bd la) (sinZ_bd lo)
 have r1:=rnd_sq (X:=cosZ la*cosZ lo) (by omega) (by omega)
 have r2:=rnd_sq (X:=cosZ la*sinZ lo) (by omega) (by omega)
 have cb:=circ_bd lo
 have ca:=circ_bd la
 have hc:=sq_nonneg (cosZ la)
 have hs:=sq_nonneg (sinZ la)
 have hp:cosZ la*cosZ lo*(cosZ la*cosZ lo)+cosZ la*sinZ lo*(cosZ la*sinZ lo)=cosZ la*cosZ la*(sinZ lo*sinZ lo+cosZ lo*cosZ lo):=by grind
 have hu:cosZ la*cosZ la*(sinZ lo*sinZ lo+cosZ lo*cosZ lo)≤cosZ la*cosZ la*1450000000000000000:=Int.mul_le_mul_of_nonneg_left cb.2 hc
 have hl:cosZ la*cosZ la*853000000000000000≤cosZ la*cosZ la*(sinZ lo*sinZ lo+cosZ lo*cosZ lo):=Int.mul_le_mul_of_nonneg_left cb.1 hc
 refine⟨rnd_unit hx.1 hx.2,rnd_unit hy.1 hy.2,sinZ_bd la,?_,?_⟩
 ·exact(vec_lin r1 r2 hp hu hl ca hc hs).1
 ·exact(vec_lin r1 r2 hp hu hl ca hc hs).2
structure PairOk (u v:V3):Prop where
 d1 : -1824000000000000000≤u.dot v
 d2:u.dot v≤1824000000000000000
 s1:rnd (u.c1 v).natAbs*rnd (u.c1 v).natAbs+rnd (u.c2 v).natAbs*rnd (u.c2 v).natAbs+rnd (u.c3 v).natAbs*rnd (u.c3 v).natAbs≤2900000000000000000
 nz:¬(rnd (u.c1 v).natAbs=0∧rnd (u.c2 v).natAbs=0∧rnd (u.c3 v).natAbs=0∧rnd (u.dot v)=0)
theorem pair_ok {u v:V3} (hu:u.Ok) (hv:v.Ok):PairOk u v:=by
 have hL:=lagrange u v
 have h1:u.sq*v.sq≤1824000000000000000*1824000000000000000:=Int.mul_le_mul hu.hi hv.hi (by have:=hv.lo;omega) (by omega)
 have h2:631000000000000000*631000000000000000≤u.sq*v.sq:=Int.mul_le_mul hu.lo hv.lo (by omega) (by have:=hu.lo;omega)
 have n0:=sq_nonneg (u.dot v)
 have n1:=sq_nonneg (u.c1 v)
 have n2:=sq_nonneg (u.c2 v)
 have n3:=sq_nonneg (u.c3 v)
 have a0:=abs_of_sq (x:=u.dot v) (K:=1824000000000000000) (by omega) (by omega)
 have a1:=abs_of_sq (x:=u.c1 v) (K:=1824000000000000000) (by omega) (by omega)
 have a2:=abs_of_sq (x:=u.c2 v) (K:=1824000000000000000) (by omega) (by omega)
 have a3:=abs_of_sq (x:=u.c3 v) (K:=1824000000000000000) (by omega) (by omega)
 have b1:=rnd_sq (X:=((u.c1 v).natAbs:Int)) (by omega) (by omega)
 have b2:=rnd_sq (X:=((u.c2 v).natAbs:Int)) (by omega) (by omega)
 have b3:=rnd_sq (X:=((u.c3 v).natAbs:Int)) (by omega) (by omega)
 have q1:((u.c1 v).natAbs:Int)*((u.c1 v).natAbs:Int)=u.c1 v*u.c1 v:=by rw[sq_abs (u.c1 v),Int.natCast_mul]
 have q2:((u.c2 v).natAbs:Int)*((u.c2 v).natAbs:Int)=u.c2 v*u.c2 v:=by rw[sq_abs (u.c2 v),Int.natCast_mul]
 have q3:((u.c3 v).natAbs:Int)*((u.c3 v).natAbs:Int)=u.c3 v*u.c3 v:=by rw[sq_abs (u.c3 v),Int.natCast_mul]
 refine⟨a0.1,a0.2,by omega,?_⟩
 rintro⟨z1,z2,z3,z0⟩
 have k1:((u.c1 v).natAbs:Int)<536870912:=by unfold rnd at z1;omega
 have k2:((u.c2 v).natAbs:Int)<536870912:=by unfold rnd at z2;omega
 have k3:((u.c3 v).natAbs:Int)<536870912:=by unfold rnd at z3;omega
 have k0 : -536870912≤u.dot v∧u.dot v≤536870912:=by unfold rnd at z0;omega
 have m1:=(mul_bd (A:=536870912) (B:=536870912) (a:=u.c1 v) (b:=u.c1 v) (by omega) (by omega) (by omega) (by omega)).2
 have m2:=(mul_bd (A:=536870912) (B:=536870912) (a:=u.c2 v) (b:=u.c2 v) (by omega) (by omega) (by omega) (by omega)).2
 have m3:=(mul_bd (A:=536870912) (B:=536870912) (a:=u.c3 v) (b:=u.c3 v) (by omega) (by omega) (by omega) (by omega)).2
 have m0:=(mul_bd (A:=536870912) (B:=536870912) (a:=u.dot v) (b:=u.dot v) (by omega) (by omega) (by omega) (by omega)).2
 omega
end Go.Proofs.YtgmehlgfilpleaaGreatDoor
