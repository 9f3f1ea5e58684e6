/-
  Contract: the first error of a leg (leg.Check).
-/
import Derived.Test.YtgmehlgfilpleaaGreatDoorMG01
import Derived.Deep.DeepCutAuto
namespace Go.Proofs.YtgmehlgfilpleaaGreatDoor
open Go.RowKit
set_option linter.unusedVariables false
set_option linter.unusedSimpArgs false
structure Lg where
 ty:Nat
 fi:List UInt8
 ce:List UInt8
 tn:Nat
 ov:Bool
 cr:Int
 ds:Int
 ra:Int
 th:Int
 lo:Int
 hi:Int
 sp:Int
 rn:Int
def lgc (l:Lg):List Value:=[.int .u8 (l.ty:Int),.string (sb l.fi),.string (sb l.ce),.int .u8 (l.tn:Int),.bool l.ov,.int .i64 l.cr,.int .i64 l.ds,.int .i64 l.ra,.int .i64 l.th,.int .i64 l.lo,.int .i64 l.hi,.int .i64 l.sp,.int .i64 l.rn]
def LgOk (l:Lg):Prop:=l.fi.length≤maxLen∧l.ce.length≤maxLen∧l.ty<256∧l.tn<256
def fstE:List Int→Int
 | []=>0
 | e::t=>if e=0 then fstE t else e
theorem fstE_cons (e:Int) (t:List Int):fstE (e::t)=if e=0 then fstE t else e:=rfl
theorem fstE_z (t:List Int):fstE (0::t)=fstE t:=if_pos rfl
theorem fstE_n {e:Int} {t:List Int} (h:e≠0):fstE (e::t)=e:=if_neg h
def refC (s:List UInt8) (used:Bool):Int:=if used then (if refErr s=0 then 0 else 5) else (if s.length=0 then 0 else 1)
def numC (n:Int) (used:Bool) (lo hi:Int):Int:=if used then (if n<lo∨hi<n then 2 else 0) else (if n=0 then 0 else 1)
def legU (t:Nat):Nat:=([0,1,9,25,9,71,71,16,50,16,146,17,49,17,53,53,53,53]:List Nat).getD t 0
def bitU (u k:Nat):Bool:=u/k%2 == 1
def turnE (u tn:Nat):Int:=if bitU u 4 then (if tn=1∨tn=2 then 0 else 1) else (if tn=0 then 0 else 1)
def overE (u:Nat) (ov:Bool):Int:=if ov=true∧bitU u 8=false then 1 else 0
def climbs (t:Nat):Bool:=t == 7 || t == 11 || t == 14
def altE (t:Nat) (lo hi:Int):Int:=if lo < -200000∨hi<lo∨6000000<hi then 2 else if climbs t=true∧lo = -200000 then 2 else 0
def spdE (sp rn:Int):Int:=if sp<0∨1000<sp∨rn<0∨120000<rn then 2 else 0
def legE (l:Lg):Int :=
 if l.ty<1∨17<l.ty then 17
 else fstE [refC l.fi (bitU (legU l.ty) 1),refC l.ce (bitU (legU l.ty) 2),turnE (legU l.ty) l.tn,overE (legU l.ty) l.ov,numC l.cr (bitU (legU l.ty) 16) 0 129599999,numC l.ds (bitU (legU l.ty) 32) 1 2000000,numC l.ra (bitU (legU l.ty) 64) 1 2000000,numC l.th (bitU (legU l.ty) 128) 0 129599999,altE l.ty l.lo l.hi,spdE l.sp l.rn]
def LegT (w:World):Prop:=∀t,t<18→w.cell? ⟨0,t,none⟩=some (.int .u16 (legU t:Int))
set_option maxHeartbeats 4000000 in
theorem legKnown_any (t:Nat) (w:World) (ht:t<256) :
  Calls Tryz.prog 224 #[.int .u8 (t:Int)] w fun e w'=>e=.returned (.bool (decide (1≤t∧t≤17)))∧w=w':=by
 by_cases h1:1≤t
 ·by_cases h2:t≤17
  ·have a1:(1:Int)≤(t:Int):=by omega
   have a2:(t:Int)≤17:=by omega
   have hd:decide (1≤t∧t≤17)=true:=decide_eq_true ⟨h1,h2⟩
   rw[hd]
   clear hd
   go_enter Tryz.func224,Tryz.ntmps224
   go_wp2
   go_ret
   exact⟨rfl,by trivial⟩
  ·have a1:(1:Int)≤(t:Int):=by omega
   have a2:¬(t:Int)≤17:=by omega
   have hd:decide (1≤t∧t≤17)=false:=decide_eq_false (by omega)
   rw[hd]
   clear hd
   go_enter Tryz.func224,Tryz.ntmps224
   go_wp2
   go_ret
   exact⟨rfl,by trivial⟩
 ·have a1:¬(1:Int)≤(t:Int):=by omega
  have hd:decide (1≤t∧t≤17)=false:=decide_eq_false (by omega)
  rw[hd]
  clear hd
  go_enter Tryz.func224,Tryz.ntmps224
  go_wp2
  go_ret
  exact⟨rfl,by trivial⟩
set_option maxHeartbeats 4000000 in
theorem legRef_any (s:ByteArray) (used:Bool) (w:World) (hs:s.size≤maxLen) :
  Calls Tryz.prog 225 #[.string s,.bool used] w fun e w'=>e=.returned (.int .i64 (refC (bl s) used))∧Drawn w w':=by
 cases used with
 | true =>
  have hsr:=splitRef_any s w hs
  go_enter Tryz.func225,Tryz.ntmps225
  go_wp2_with fail
  refine hsr.mono ?_
  rintro e w1 ⟨a,b,rfl,-,-,-,-,hd⟩
  have HR:Hid (refC (bl s) true=if refErr (bl s)=0 then 0 else 5):=rfl
  obtain⟨x,hx⟩:∃x,refErr (bl s)=x:=⟨_,rfl⟩
  rw[hx] at HR ⊢
  clear hx hsr
  by_cases h0:x=0
  ·have HV:Hid (refC (bl s) true=0):=by unfold Hid;rw[HR.out,if_pos h0]
   subst h0
   clear HR
   go_wp2
   go_ret
   rw[HV.out]
   exact⟨rfl,hd⟩
  ·have HV:Hid (refC (bl s) true=5):=by unfold Hid;rw[HR.out,if_neg h0]
   have e0:(x != 0)=true:=bne_iff_ne.2 h0
   clear HR h0
   go_wp2
   go_ret
   rw[HV.out]
   exact⟨rfl,hd⟩
 | false =>
  by_cases h0:s.size=0
  ·have HV:Hid (refC (bl s) false=0):=by unfold Hid refC;rw[if_neg (by decide),if_pos (by rw[bl_len];exact h0)]
   have e1:(s.toList == [])=true:=by rw[bl_toList,bl_nil h0];rfl
   clear h0
   go_enter Tryz.func225,Tryz.ntmps225
   go_wp2
   go_ret
   rw[HV.out]
   exact⟨rfl,Drawn.refl _⟩
  ·have HV:Hid (refC (bl s) false=1):=by unfold Hid refC;rw[if_neg (by decide),if_neg (by rw[bl_len];exact h0)]
   have e1:(s.toList == [])=false:=by rw[bl_toList,beq_eq_false_iff_ne];intro e;exact h0 (bl_nil_iff.1 e)
   clear h0
   go_enter Tryz.func225,Tryz.ntmps225
   go_wp2
   go_ret
   rw[HV.out]
   exact⟨rfl,Drawn.refl _⟩
set_option maxHeartbeats 4000000 in
theorem legNum_any (n:Int) (used:Bool) (lo hi:Int) (w:World) :
  Calls Tryz.prog 226 #[.int .i64 n,.bool used,.int .i64 lo,.int .i64 hi] w fun e w'=>e=.returned (.int .i64 (numC n used lo hi))∧w=w':=by
 cases used with
 | true =>
  by_cases h1:n<lo
  ·have HV:Hid (numC n true lo hi=2):=by unfold Hid numC;rw[if_pos rfl,if_pos (.inl h1)]
   go_enter Tryz.func226,Tryz.ntmps226
   go_wp2
   go_ret
   rw[HV.out]
   exact⟨rfl,by trivial⟩
  ·by_cases h2:hi<n
   ·have HV:Hid (numC n true lo hi=2):=by unfold Hid numC;rw[if_pos rfl,if_pos (.inr h2)]
    go_enter Tryz.func226,Tryz.ntmps226
    go_wp2
    go_ret
    rw[HV.out]
    exact⟨rfl,by trivial⟩
   ·have HV:Hid (numC n true lo hi=0):=by unfold Hid numC;rw[if_pos rfl,if_neg (by simp only[not_or];exact⟨h1,h2⟩)]
    go_enter Tryz.func226,Tryz.ntmps226
    go_wp2
    go_ret
    rw[HV.out]
    exact⟨rfl,by trivial⟩
 | false =>
  by_cases h0:n=0
  ·have HV:Hid (numC n false lo hi=0):=by unfold Hid numC;rw[if_neg (by decide),if_pos h0]
   subst h0
   go_enter Tryz.func226,Tryz.ntmps226
   go_wp2
   go_ret
   rw[HV.out]
   exact⟨rfl,by trivial⟩
  ·have HV:Hid (numC n false lo hi=1):=by unfold Hid numC;rw[if_neg (by decide),if_neg h0]
   have e0:(n != 0)=true:=bne_iff_ne.2 h0
   clear h0
   go_enter Tryz.func226,Tryz.ntmps226
   go_wp2
   go_ret
   rw[HV.out]
   exact⟨rfl,by trivial⟩
theorem leg_bits:∀t,t<18→∀k∈([1,2,4,8,16,32,64,128]:List Nat),bits .and .u16 (legU t:Int) (k:Int)=if bitU (legU t) k then (k:Int) else 0:=by decide +kernel
theorem leg_bit {t k:Nat} (ht:t<18) (hk:k∈([1,2,4,8,16,32,64,128]:List Nat)) (h0:0<k):∃m:Int,bits .and .u16 (legU t:Int) (k:Int)=m∧(m != 0)=bitU (legU t) k∧(m == 0) = !bitU (legU t) k:=by
 refine⟨_,leg_bits t ht k hk,?_,?_⟩
 ·cases bitU (legU t) k with
  | true=>simp;omega
  | false=>rfl
 ·cases bitU (legU t) k with
  | true=>simp;omega
  | false=>rfl
theorem below_drN {B:Nat} {w w':World} (h:Below B w w') (n:Nat):Below B w (w'.drewN n):=below_drewN' h n
set_option maxRecDepth 100000 in
set_option maxHeartbeats 16000000 in
theorem legCheck_any (l:Lg) (w:World) (hT:LegT w) (hok:LgOk l) :
  Calls Tryz.prog 151 #[.agg (lgc l).toArray] w fun e w'=>e=.returned (.int .i64 (legE l))∧Below w.heap.size w w':=by
 obtain⟨ty,fi,ce,tn,ov,cr,ds,ra,th,lo,hi,sp,rn⟩:=l
 obtain⟨z1,z2,z3,z4⟩:=hok
 simp only at z1 z2 z3 z4
 obtain⟨w1,hw1⟩:∃W,w.alloc (.cells #[.int .u8 (ty:Int),.string (sb fi),.string (sb ce),.int .u8 (tn:Int),.bool ov,.int .i64 cr,.int .i64 ds,.int .i64 ra,.int .i64 th,.int .i64 lo,.int .i64 hi,.int .i64 sp,.int .i64 rn] 65)=W:=⟨_,rfl⟩
 obtain⟨q,hq⟩:∃x,w.heap.size=x:=⟨_,rfl⟩
 have hb1:Below w.heap.size w w1:=by rw[←hw1];exact(Below.refl _ _).alloc (Nat.le_refl _) _
 have hX:w1.heap[q]? = some (.cells #[.int .u8 (ty:Int),.string (sb fi),.string (sb ce),.int .u8 (tn:Int),.bool ov,.int .i64 cr,.int .i64 ds,.int .i64 ra,.int .i64 th,.int .i64 lo,.int .i64 hi,.int .i64 sp,.int .i64 rn] 65 (0,0)):=by rw[←hw1,←hq];exact heap_alloc_new w _
 have hql:q<w1.heap.size:=heap_lt hX
 have x0:=cell_of_row w1 q 0 _ _ _ hX
 have x1:=cell_of_row w1 q 1 _ _ _ hX
 have x2:=cell_of_row w1 q 2 _ _ _ hX
 have x3:=cell_of_row w1 q 3 _ _ _ hX
 have x4:=cell_of_row w1 q 4 _ _ _ hX
 have x5:=cell_of_row w1 q 5 _ _ _ hX
 have x6:=cell_of_row w1 q 6 _ _ _ hX
 have x7:=cell_of_row w1 q 7 _ _ _ hX
 have x8:=cell_of_row w1 q 8 _ _ _ hX
 have x9:=cell_of_row w1 q 9 _ _ _ hX
 have x10:=cell_of_row w1 q 10 _ _ _ hX
 have x11:=cell_of_row w1 q 11 _ _ _ hX
 have x12:=cell_of_row w1 q 12 _ _ _ hX
 simp only[List.getElem?_toArray,List.getElem?_cons_zero,List.getElem?_cons_succ] at x0 x1 x2 x3 x4 x5 x6 x7 x8 x9 x10 x11 x12
 have B1:=Lib.hid hb1
 have HW1:=Lib.hid hw1
 have HQ:=Lib.hid hq
 unfold lgc
 by_cases hty:1≤ty∧ty≤17
 ·have hkn:decide (1≤ty∧ty≤17)=true:=decide_eq_true hty
  have hT1:=hT ty (by omega)
  have hgl:0<w.heap.size:=cell_lt hT1
  have kT:=(hb1.cell (p:=⟨0,ty,none⟩) hgl).trans hT1
  have hgl1:0<w1.heap.size:=Nat.lt_of_lt_of_le hgl hb1.size
  have hti:(ty:Int)<18:=by omega
  obtain⟨m1,b1,q1,-⟩:=leg_bit (t:=ty) (k:=1) (by omega) (by decide) (by decide)
  obtain⟨m2,b2,q2,-⟩:=leg_bit (t:=ty) (k:=2) (by omega) (by decide) (by decide)
  obtain⟨m4,b4,q4,-⟩:=leg_bit (t:=ty) (k:=4) (by omega) (by decide) (by decide)
  obtain⟨m8,b8,-,q8⟩:=leg_bit (t:=ty) (k:=8) (by omega) (by decide) (by decide)
  obtain⟨m16,b16,q16,-⟩:=leg_bit (t:=ty) (k:=16) (by omega) (by decide) (by decide)
  obtain⟨m32,b32,q32,-⟩:=leg_bit (t:=ty) (k:=32) (by omega) (by decide) (by decide)
  obtain⟨m64,b64,q64,-⟩:=leg_bit (t:=ty) (k:=64) (by omega) (by decide) (by decide)
  obtain⟨m128,b128,q128,-⟩:=leg_bit (t:=ty) (k:=128) (by omega) (by decide) (by decide)
  have HE:Hid (legE ⟨ty,fi,ce,tn,ov,cr,ds,ra,th,lo,hi,sp,rn⟩=fstE [refC fi (bitU (legU ty) 1),refC ce (bitU (legU ty) 2),turnE (legU ty) tn,overE (legU ty) ov,numC cr (bitU (legU ty) 16) 0 129599999,numC ds (bitU (legU ty) 32) 1 2000000,numC ra (bitU (legU ty) 64) 1 2000000,numC th (bitU (legU ty) 128) 0 129599999,altE ty lo hi,spdE sp rn]):=by
   unfold Hid legE
   rw[if_neg (by simp only;omega)]
  have HTU:Hid (turnE (legU ty) tn=if bitU (legU ty) 4 then (if tn=1∨tn=2 then 0 else 1) else (if tn=0 then 0 else 1)):=rfl
  have HOV:Hid (overE (legU ty) ov=if ov=true∧bitU (legU ty) 8=false then 1 else 0):=rfl
  obtain⟨fF,hF⟩:∃b,bitU (legU ty) 1=b:=⟨_,rfl⟩
  obtain⟨fC,hC⟩:∃b,bitU (legU ty) 2=b:=⟨_,rfl⟩
  obtain⟨fT,hfT⟩:∃b,bitU (legU ty) 4=b:=⟨_,rfl⟩
  obtain⟨fO,hO⟩:∃b,bitU (legU ty) 8=b:=⟨_,rfl⟩
  obtain⟨fK,hK⟩:∃b,bitU (legU ty) 16=b:=⟨_,rfl⟩
  obtain⟨fD,hD⟩:∃b,bitU (legU ty) 32=b:=⟨_,rfl⟩
  obtain⟨fR,hR⟩:∃b,bitU (legU ty) 64=b:=⟨_,rfl⟩
  obtain⟨fH,hH⟩:∃b,bitU (legU ty) 128=b:=⟨_,rfl⟩
  obtain⟨a3,ha3⟩:∃x,turnE (legU ty) tn=x:=⟨_,rfl⟩
  obtain⟨a4,ha4⟩:∃x,overE (legU ty) ov=x:=⟨_,rfl⟩
  rw[hF,hC,hK,hD,hR,hH,ha3,ha4] at HE
  rw[hfT,ha3] at HTU
  rw[hO,ha4] at HOV
  rw[hF] at q1
  rw[hC] at q2
  rw[hfT] at q4
  rw[hO] at q8
  rw[hK] at q16
  rw[hD] at q32
  rw[hR] at q64
  rw[hH] at q128
  clear hF hC hfT hO hK hD hR hH ha3 ha4
  obtain⟨a1,ha1⟩:∃x,refC fi fF=x:=⟨_,rfl⟩
  obtain⟨a2,ha2⟩:∃x,refC ce fC=x:=⟨_,rfl⟩
  obtain⟨a5,ha5⟩:∃x,numC cr fK 0 129599999=x:=⟨_,rfl⟩
  obtain⟨a6,ha6⟩:∃x,numC ds fD 1 2000000=x:=⟨_,rfl⟩
  obtain⟨a7,ha7⟩:∃x,numC ra fR 1 2000000=x:=⟨_,rfl⟩
  obtain⟨a8,ha8⟩:∃x,numC th fH 0 129599999=x:=⟨_,rfl⟩
  obtain⟨a9,ha9⟩:∃x,altE ty lo hi=x:=⟨_,rfl⟩
  obtain⟨a10,ha10⟩:∃x,spdE sp rn=x:=⟨_,rfl⟩
  rw[ha1,ha2,ha5,ha6,ha7,ha8,ha9,ha10] at HE
  have C1:=Lib.hid (fun W=>legRef_any (sb fi) fF W z1)
  have C2:=Lib.hid (fun W=>legRef_any (sb ce) fC W z2)
  have C5:=Lib.hid (fun W=>legNum_any cr fK 0 129599999 W)
  have C6:=Lib.hid (fun W=>legNum_any ds fD 1 2000000 W)
  have C7:=Lib.hid (fun W=>legNum_any ra fR 1 2000000 W)
  have C8:=Lib.hid (fun W=>legNum_any th fH 0 129599999 W)
  rw[bl_sb,ha1] at C1
  rw[bl_sb,ha2] at C2
  rw[ha5] at C5
  rw[ha6] at C6
  rw[ha7] at C7
  rw[ha8] at C8
  have HA9:=Lib.hid ha9
  have HA10:=Lib.hid ha10
  obtain⟨U,hU⟩:∃x:Int,(legU ty:Int)=x:=⟨_,rfl⟩
  rw[hU] at kT b1 b2 b4 b8 b16 b32 b64 b128
  replace b1:bits .and .u16 U 1=m1:=b1
  replace b2:bits .and .u16 U 2=m2:=b2
  replace b4:bits .and .u16 U 4=m4:=b4
  replace b8:bits .and .u16 U 8=m8:=b8
  replace b16:bits .and .u16 U 16=m16:=b16
  replace b32:bits .and .u16 U 32=m32:=b32
  replace b64:bits .and .u16 U 64=m64:=b64
  replace b128:bits .and .u16 U 128=m128:=b128
  have hk:=legKnown_any ty
  clear hT hT1 hgl hU ha1 ha2 ha5 ha6 ha7 ha8 ha9 ha10 hw1 hb1 hX hq hty
  have HK:=Lib.hid hk
  clear hk
  go_enter Tryz.func151,Tryz.ntmps151
  go_upto_region 1 with fail
  rw[HW1.out,HQ.out]
  clear HW1
  go_wp2_with fail
  refine(HK.out _ z3).mono ?_
  rintro e w' ⟨rfl,rfl⟩
  rw[hkn]
  clear HK hkn
  go_wp2_with fail
  refine(C1.out _).mono ?_
  rintro e w2 ⟨rfl,n2,rfl⟩
  clear C1
  by_cases h1:a1=0
  rotate_left
  ·have e1:(a1 != 0)=true:=bne_iff_ne.2 h1
   have HV:Hid (legE ⟨ty,fi,ce,tn,ov,cr,ds,ra,th,lo,hi,sp,rn⟩=a1):=by unfold Hid;rw[HE.out];(try simp only[fstE_z]);exact fstE_n h1
   go_wp2
   go_ret
   rw[HV.out]
   exact⟨rfl,(below_drN B1.out (n2))⟩
  subst h1
  go_wp2_with fail
  refine(C2.out _).mono ?_
  rintro e w3 ⟨rfl,n3,rfl⟩
  clear C2
  by_cases h1:a2=0
  rotate_left
  ·have e1:(a2 != 0)=true:=bne_iff_ne.2 h1
   have HV:Hid (legE ⟨ty,fi,ce,tn,ov,cr,ds,ra,th,lo,hi,sp,rn⟩=a2):=by unfold Hid;rw[HE.out];(try simp only[fstE_z]);exact fstE_n h1
   go_wp2
   go_ret
   rw[HV.out]
   exact⟨rfl,(below_drN B1.out (n2+n3))⟩
  subst h1
  go_upto_if 39 with (fail)
  go_cut [39] (fun _ wx=>wx=(w1.drewN (n2+n3))∧Hid (a3=0))
  case first =>
   cases fT with
   | true =>
    by_cases h1:tn=1
    ·have h0:a3=0:=by rw[HTU.out,if_pos rfl,if_pos (.inl h1)]
     have H0:=Lib.hid h0
     clear h0
     subst h1
     go_wp2
     go_meet
     exact⟨rfl,H0⟩
    ·by_cases h2:tn=2
     ·have h0:a3=0:=by rw[HTU.out,if_pos rfl,if_pos (.inr h2)]
      have H0:=Lib.hid h0
      clear h0 h1
      subst h2
      go_wp2
      go_meet
      exact⟨rfl,H0⟩
     ·have h0:a3=1:=by rw[HTU.out,if_pos rfl,if_neg (by simp only[not_or];exact⟨h1,h2⟩)]
      have p1:((tn:Int) == 1)=false:=by rw[beq_eq_false_iff_ne];omega
      have r1:((tn:Int) != 1)=true:=by rw[bne,p1];rfl
      have p2:((tn:Int) == 2)=false:=by rw[beq_eq_false_iff_ne];omega
      have r2:((tn:Int) != 2)=true:=by rw[bne,p2];rfl
      clear h1 h2
      subst h0
      have HV:Hid (legE ⟨ty,fi,ce,tn,ov,cr,ds,ra,th,lo,hi,sp,rn⟩=1):=by unfold Hid;rw[HE.out];(try simp only[fstE_z]);exact fstE_n (by decide)
      go_wp2
      go_ret
      rw[HV.out]
      exact⟨rfl,(below_drN B1.out (n2+n3))⟩
   | false =>
    by_cases h1:tn=0
    ·have h0:a3=0:=by rw[HTU.out,if_neg (by decide),if_pos h1]
     have H0:=Lib.hid h0
     clear h0
     subst h1
     go_wp2
     go_meet
     exact⟨rfl,H0⟩
    ·have h0:a3=1:=by rw[HTU.out,if_neg (by decide),if_neg h1]
     have p1:((tn:Int) == 0)=false:=by rw[beq_eq_false_iff_ne];omega
     have r1:((tn:Int) != 0)=true:=by rw[bne,p1];rfl
     clear h1
     subst h0
     have HV:Hid (legE ⟨ty,fi,ce,tn,ov,cr,ds,ra,th,lo,hi,sp,rn⟩=1):=by unfold Hid;rw[HE.out];(try simp only[fstE_z]);exact fstE_n (by decide)
     go_wp2
     go_ret
     rw[HV.out]
     exact⟨rfl,(below_drN B1.out (n2+n3))⟩
  case rest =>
  obtain⟨rfl,h3⟩:=hcut
  have h3':=h3.out
  subst h3'
  clear h3 HTU q4 b4
  go_upto_region 15 with fail
  go_cut [57] (fun v wx=>v=.bool (ov && !fO)∧wx=(w1.drewN (n2+n3)))
  case first =>
   cases ov with
   | false =>
    go_wp2
    go_meet
    exact⟨rfl,rfl⟩
   | true =>
    go_wp2
    go_meet
    exact⟨by simp,rfl⟩
  case rest =>
  obtain⟨rfl,rfl⟩:=hcut
  have HOV2:Hid (a4=if (ov && !fO)=true then 1 else 0):=by
   unfold Hid
   rw[HOV.out]
   cases ov <;> cases fO <;> rfl
  clear HOV q8 b8
  obtain⟨vb,hvb⟩:∃b,(ov && !fO)=b:=⟨_,rfl⟩
  rw[hvb] at HOV2 ⊢
  clear hvb
  cases vb
  rotate_left
  ·have h0:a4=1:=HOV2.out
   subst h0
   have HV:Hid (legE ⟨ty,fi,ce,tn,ov,cr,ds,ra,th,lo,hi,sp,rn⟩=1):=by unfold Hid;rw[HE.out];(try simp only[fstE_z]);exact fstE_n (by decide)
   go_wp2
   go_ret
   rw[HV.out]
   exact⟨rfl,(below_drN B1.out (n2+n3))⟩
  have h4':a4=0:=HOV2.out
  subst h4'
  clear HOV2
  go_wp2_with fail
  refine(C5.out _).mono ?_
  rintro e w' ⟨rfl,rfl⟩
  clear C5
  by_cases h1:a5=0
  rotate_left
  ·have e1:(a5 != 0)=true:=bne_iff_ne.2 h1
   have HV:Hid (legE ⟨ty,fi,ce,tn,ov,cr,ds,ra,th,lo,hi,sp,rn⟩=a5):=by unfold Hid;rw[HE.out];(try simp only[fstE_z]);exact fstE_n h1
   go_wp2
   go_ret
   rw[HV.out]
   exact⟨rfl,(below_drN B1.out (n2+n3))⟩
  subst h1
  go_wp2_with fail
  refine(C6.out _).mono ?_
  rintro e w' ⟨rfl,rfl⟩
  clear C6
  by_cases h1:a6=0
  rotate_left
  ·have e1:(a6 != 0)=true:=bne_iff_ne.2 h1
   have HV:Hid (legE ⟨ty,fi,ce,tn,ov,cr,ds,ra,th,lo,hi,sp,rn⟩=a6):=by unfold Hid;rw[HE.out];(try simp only[fstE_z]);exact fstE_n h1
   go_wp2
   go_ret
   rw[HV.out]
   exact⟨rfl,(below_drN B1.out (n2+n3))⟩
  subst h1
  go_wp2_with fail
  refine(C7.out _).mono ?_
  rintro e w' ⟨rfl,rfl⟩
  clear C7
  by_cases h1:a7=0
  rotate_left
  ·have e1:(a7 != 0)=true:=bne_iff_ne.2 h1
   have HV:Hid (legE ⟨ty,fi,ce,tn,ov,cr,ds,ra,th,lo,hi,sp,rn⟩=a7):=by unfold Hid;rw[HE.out];(try simp only[fstE_z]);exact fstE_n h1
   go_wp2
   go_ret
   rw[HV.out]
   exact⟨rfl,(below_drN B1.out (n2+n3))⟩
  subst h1
  go_wp2_with fail
  refine(C8.out _).mono ?_
  rintro e w' ⟨rfl,rfl⟩
  clear C8
  by_cases h1:a8=0
  rotate_left
  ·have e1:(a8 != 0)=true:=bne_iff_ne.2 h1
   have HV:Hid (legE ⟨ty,fi,ce,tn,ov,cr,ds,ra,th,lo,hi,sp,rn⟩=a8):=by unfold Hid;rw[HE.out];(try simp only[fstE_z]);exact fstE_n h1
   go_wp2
   go_ret
   rw[HV.out]
   exact⟨rfl,(below_drN B1.out (n2+n3))⟩
  subst h1
  go_upto_region 29 with fail
  go_cut [10] (fun v wx=>v=.bool (climbs ty)∧wx=(w1.drewN (n2+n3)))
  case first =>
   by_cases h7:ty=7
   ·subst h7
    go_wp2
    go_meet
    exact⟨rfl,rfl⟩
   ·by_cases h11:ty=11
    ·subst h11
     go_wp2
     go_meet
     exact⟨rfl,rfl⟩
    ·by_cases h14:ty=14
     ·subst h14
      go_wp2
      go_meet
      exact⟨rfl,rfl⟩
     ·have p7:((ty:Int) == 7)=false:=by rw[beq_eq_false_iff_ne];omega
      have p11:((ty:Int) == 11)=false:=by rw[beq_eq_false_iff_ne];omega
      have p14:((ty:Int) == 14)=false:=by rw[beq_eq_false_iff_ne];omega
      have HC:Hid (climbs ty=false):=by unfold Hid climbs;simp[h7,h11,h14]
      clear h7 h11 h14
      go_wp2
      go_meet
      exact⟨by rw[HC.out],rfl⟩
  case rest =>
  obtain⟨rfl,rfl⟩:=hcut
  have HA:Hid (altE ty lo hi=if lo < -200000∨hi<lo∨6000000<hi then 2 else if climbs ty=true∧lo = -200000 then 2 else 0):=rfl
  have HS:Hid (spdE sp rn=if sp<0∨1000<sp∨rn<0∨120000<rn then 2 else 0):=rfl
  obtain⟨cl,hcl⟩:∃b,climbs ty=b:=⟨_,rfl⟩
  rw[hcl] at HA ⊢
  rw[HA9.out] at HA
  rw[HA10.out] at HS
  clear hcl HA9 HA10
  have H2:Hid (a9=2→legE ⟨ty,fi,ce,tn,ov,cr,ds,ra,th,lo,hi,sp,rn⟩=2):=fun h=>by rw[HE.out,h];(try simp only[fstE_z]);exact fstE_n (by decide)
  have H3:Hid (a9=0→a10=2→legE ⟨ty,fi,ce,tn,ov,cr,ds,ra,th,lo,hi,sp,rn⟩=2):=fun h h2=>by rw[HE.out,h,h2];(try simp only[fstE_z]);exact fstE_n (by decide)
  have H4:Hid (a9=0→a10=0→legE ⟨ty,fi,ce,tn,ov,cr,ds,ra,th,lo,hi,sp,rn⟩=0):=fun h h2=>by rw[HE.out,h,h2];(try simp only[fstE_z]);rfl
  have HB:=Lib.hid (below_drN B1.out (n2+n3))
  clear HE
  by_cases hA:lo < -200000∨hi<lo∨6000000<hi
  ·have HV:=Lib.hid (H2.out (by rw[HA.out,if_pos hA]))
   have hA2:lo < -200000∨(¬lo < -200000∧hi<lo)∨(¬lo < -200000∧¬hi<lo∧6000000<hi):=by omega
   clear hA HA HS H2 H3 H4
   rcases hA2 with h1|⟨h1,h2⟩|⟨h1,h2,h3⟩
   all_goals
    go_wp2
    go_ret
    rw[HV.out]
    exact⟨rfl,HB.out⟩
  ·have hA1:¬lo < -200000:=by omega
   have hA2:¬hi<lo:=by omega
   have hA3:¬6000000<hi:=by omega
   by_cases hB:cl=true∧lo = -200000
   ·obtain⟨rfl,rfl⟩:=hB
    have HV:=Lib.hid (H2.out (by rw[HA.out,if_neg hA,if_pos ⟨rfl,rfl⟩]))
    clear hA HA HS H2 H3 H4
    go_wp2
    go_ret
    rw[HV.out]
    exact⟨rfl,HB.out⟩
   ·have h9:a9=0:=by rw[HA.out,if_neg hA,if_neg hB]
    have H9:=Lib.hid h9
    have hB2:cl=false∨(cl=true∧(lo == -200000)=false):=by
     cases cl with
     | false=>exact .inl rfl
     | true=>exact .inr ⟨rfl,by rw[beq_eq_false_iff_ne];exact fun e=>hB ⟨rfl,e⟩⟩
    clear hA HA H2 hB h9
    by_cases hS:sp<0∨1000<sp∨rn<0∨120000<rn
    ·have HV:=Lib.hid (H3.out H9.out (by rw[HS.out,if_pos hS]))
     have hS2:sp<0∨(¬sp<0∧1000<sp)∨(¬sp<0∧¬1000<sp∧rn<0)∨(¬sp<0∧¬1000<sp∧¬rn<0∧120000<rn):=by omega
     clear hS HS H3 H4
     rcases hB2 with rfl|⟨rfl,hB3⟩
     all_goals
      rcases hS2 with h1|⟨h1,h2⟩|⟨h1,h2,h3⟩|⟨h1,h2,h3,h4⟩
      all_goals
       go_wp2
       go_ret
       rw[HV.out]
       exact⟨rfl,HB.out⟩
    ·have HV:=Lib.hid (H4.out H9.out (by rw[HS.out,if_neg hS]))
     have h1:¬sp<0:=by omega
     have h2:¬1000<sp:=by omega
     have h3:¬rn<0:=by omega
     have h4:¬120000<rn:=by omega
     clear hS HS H3 H4
     rcases hB2 with rfl|⟨rfl,hB3⟩
     all_goals
      go_wp2
      go_ret
      rw[HV.out]
      exact⟨rfl,HB.out⟩
 ·have hkn:decide (1≤ty∧ty≤17)=false:=decide_eq_false hty
  have HE:Hid (legE ⟨ty,fi,ce,tn,ov,cr,ds,ra,th,lo,hi,sp,rn⟩=17):=by
   unfold Hid legE
   rw[if_pos (by simp only;omega)]
  have hk:=legKnown_any ty
  have HK:=Lib.hid hk
  clear hT hk hw1 hb1 hX hq hty
  go_enter Tryz.func151,Tryz.ntmps151
  go_upto_region 1 with fail
  rw[HW1.out,HQ.out]
  clear HW1
  go_wp2_with fail
  refine(HK.out _ z3).mono ?_
  rintro e w' ⟨rfl,rfl⟩
  rw[hkn]
  go_wp2
  go_ret
  rw[HE.out]
  exact⟨rfl,B1.out⟩
end Go.Proofs.YtgmehlgfilpleaaGreatDoor
