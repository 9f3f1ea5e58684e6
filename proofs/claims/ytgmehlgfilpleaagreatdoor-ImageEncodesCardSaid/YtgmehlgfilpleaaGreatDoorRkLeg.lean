/-
  Contracts: the reference's legs: the fields that a type uses, the first error of a leg, which leg may follow another.
-/
import Derived.Test.YtgmehlgfilpleaaGreatDoorMG27
import Derived.Test.YtgmehlgfilpleaaGreatDoorProC
namespace Go.Proofs.YtgmehlgfilpleaaGreatDoor
open Go.RowKit
set_option linter.unusedVariables false
set_option linter.unusedSimpArgs false
set_option maxRecDepth 100000 in
set_option maxHeartbeats 8000000 in
theorem ruses_any (t:Nat) (w:World) (ht:t<256):Calls Tryz.prog 286 #[.int .u8 (t:Int)] w fun e w'=>e=.returned (.string (sb (rkU t)))∧w=w':=by
 by_cases h:t<18
 ·have h:t=0∨t=1∨t=2∨t=3∨t=4∨t=5∨t=6∨t=7∨t=8∨t=9∨t=10∨t=11∨t=12∨t=13∨t=14∨t=15∨t=16∨t=17:=by omega
  clear ht
  rcases h with rfl|rfl|rfl|rfl|rfl|rfl|rfl|rfl|rfl|rfl|rfl|rfl|rfl|rfl|rfl|rfl|rfl|rfl
  all_goals
   go_enter Tryz.func286,Tryz.ntmps286
   go_wp2
   go_ret
   exact⟨rfl,by first|rfl|trivial⟩
 ·have hu:rkU t=[]:=by
   have:=rkU_nil t
   rw[decide_eq_true (p:=t<1∨17<t) (.inr (by omega))] at this
   exact of_decide_eq_true this
  have HU:=Lib.hid hu
  clear hu
  have q:∀k:Int,k≤17→((t:Int) == k)=false:=fun k hk=>beq_eq_false_iff_ne.2 (by omega)
  have q1:=q 1 (by decide)
  have q2:=q 2 (by decide)
  have q3:=q 3 (by decide)
  have q4:=q 4 (by decide)
  have q5:=q 5 (by decide)
  have q6:=q 6 (by decide)
  have q7:=q 7 (by decide)
  have q8:=q 8 (by decide)
  have q9:=q 9 (by decide)
  have q10:=q 10 (by decide)
  have q11:=q 11 (by decide)
  have q12:=q 12 (by decide)
  have q13:=q 13 (by decide)
  have q14:=q 14 (by decide)
  have q15:=q 15 (by decide)
  have q16:=q 16 (by decide)
  have q17:=q 17 (by decide)
  clear q h ht
  go_enter Tryz.func286,Tryz.ntmps286
  go_wp2
  go_ret
  exact⟨by rw[HU.out];rfl,by first|rfl|trivial⟩
theorem hasC_step {l:List UInt8} {k:Nat} (c:UInt8) (hk:k<l.length):hasC (l.drop k) c=(l[k] == c || hasC (l.drop (k+1)) c):=by
 unfold hasC;rw[List.drop_eq_getElem_cons hk];rfl
theorem hasC_end {l:List UInt8} {k:Nat} (c:UInt8) (hk:l.length≤k):hasC (l.drop k) c=false:=by
 unfold hasC;rw[List.drop_eq_nil_of_le hk];rfl
set_option maxHeartbeats 4000000 in
theorem rhas_any (s:ByteArray) (c:UInt8) (w:World) (hs:s.size≤maxLen):Calls Tryz.prog 288 #[.string s,.int .u8 (c.toNat:Int)] w fun e w'=>e=.returned (.bool (hasC (bl s) c))∧w=w':=by
 unfold maxLen at hs
 obtain⟨R,hR⟩:∃R,hasC (bl s) c=R:=⟨_,rfl⟩
 have HR0:Hid (hasC ((bl s).drop 0) c=R):=hR
 rw[hR]
 clear hR
 go_enter Tryz.func288,Tryz.ntmps288
 go_wp2
 go_loop [5] (fun i=>∃k:Nat,k≤s.size∧i=.int .i64 k∧Hid (hasC ((bl s).drop k) c=R)) (fun i=>s.size-(intOf i).toNat)
 case atStart=>exact⟨0,Nat.zero_le _,rfl,HR0⟩
 case round =>
  obtain⟨k,hk,rfl,hr⟩:=hrel
  by_cases hlt:k<s.size
  ·have hst:=hasC_step c (show k<(bl s).length by rw[bl_len];exact hlt)
   have hg:(bl s)[k]'(by rw[bl_len];exact hlt)=s[k]:=rfl
   rw[hg] at hst
   by_cases he:s[k]=c
   ·have HV:Hid (R=true):=by unfold Hid;rw[←hr.out,hst,he];simp
    have e1:((s[k].toNat:Int) == (c.toNat:Int))=true:=by rw[beq_iff_eq,he]
    clear hst hg he
    go_wp2
    go_ret
    exact⟨ret_bool HV.out.symm,rfl⟩
   ·have HV:Hid (hasC ((bl s).drop (k+1)) c=R):=by
     unfold Hid;rw[←hr.out,hst,show(s[k] == c)=false from beq_eq_false_iff_ne.2 he];rfl
    have e1:((s[k].toNat:Int) == (c.toNat:Int))=false:=by
     rw[beq_eq_false_iff_ne];intro e;apply he;apply UInt8.toNat_inj.1;omega
    clear hst hg he
    go_wp2
    go_round
    case rel=>exact⟨k+1,hlt,by go_num,HV⟩
    case measure=>simp[intOf];omega
  ·have HV:Hid (R=false):=by unfold Hid;rw[←hr.out];exact hasC_end c (by rw[bl_len];omega)
   go_wp2
   go_ret
   exact⟨ret_bool HV.out.symm,rfl⟩
set_option maxHeartbeats 4000000 in
theorem rlegRef_any (s:ByteArray) (used:Bool) (w:World) (hs:s.size≤maxLen) :
  Calls Tryz.prog 287 #[.string s,.bool used] w fun e w'=>e=.returned (.int .i64 (refC (bl s) used))∧Drawn w w':=by
 cases used with
 | true =>
  have hsr:=rsplitRef_any s w hs
  go_enter Tryz.func287,Tryz.ntmps287
  go_wp2_with fail
  refine hsr.mono ?_
  rintro e w1 ⟨a,b,rfl,-,-,-,-,hd⟩
  have HR:Hid (refC (bl s) true=if refErr (bl s)=0 then 0 else 5):=rfl
  obtain⟨x,hx⟩:∃x,refErr (bl s)=x:=⟨_,rfl⟩
  rw[hx] at HR ⊢
  clear hx hsr
  by_cases h0:x=0
  ·have HV:Hid (refC (bl s) true=0):=by unfold Hid;rw[HR.out,if_pos h0]
   subst h0
   clear HR
   go_wp2
   go_ret
   rw[HV.out]
   exact⟨rfl,hd⟩
  ·have HV:Hid (refC (bl s) true=5):=by unfold Hid;rw[HR.out,if_neg h0]
   have e0:(x != 0)=true:=bne_iff_ne.2 h0
   clear HR h0
   go_wp2
   go_ret
   rw[HV.out]
   exact⟨rfl,hd⟩
 | false =>
  by_cases h0:s.size=0
  ·have HV:Hid (refC (bl s) false=0):=by unfold Hid refC;rw[if_neg (by decide),if_pos (by rw[bl_len];exact h0)]
   have e1:(s.toList == [])=true:=by rw[bl_toList,bl_nil h0];rfl
   clear h0
   go_enter Tryz.func287,Tryz.ntmps287
   go_wp2
   go_ret
   rw[HV.out]
   exact⟨rfl,Drawn.refl _⟩
  ·have HV:Hid (refC (bl s) false=1):=by unfold Hid refC;rw[if_neg (by decide),if_neg (by rw[bl_len];exact h0)]
   have e1:(s.toList == [])=false:=by rw[bl_toList,beq_eq_false_iff_ne];intro e;exact h0 (bl_nil_iff.1 e)
   clear h0
   go_enter Tryz.func287,Tryz.ntmps287
   go_wp2
   go_ret
   rw[HV.out]
   exact⟨rfl,Drawn.refl _⟩
set_option maxHeartbeats 4000000 in
theorem rlegNum_any (n:Int) (used:Bool) (lo hi:Int) (w:World) :
  Calls Tryz.prog 289 #[.int .i64 n,.int .i64 lo,.int .i64 hi,.bool used] w fun e w'=>e=.returned (.int .i64 (numC n used lo hi))∧w=w':=by
 cases used with
 | true =>
  by_cases h1:n<lo
  ·have HV:Hid (numC n true lo hi=2):=by unfold Hid numC;rw[if_pos rfl,if_pos (.inl h1)]
   go_enter Tryz.func289,Tryz.ntmps289
   go_wp2
   go_ret
   rw[HV.out]
   exact⟨rfl,by trivial⟩
  ·by_cases h2:hi<n
   ·have HV:Hid (numC n true lo hi=2):=by unfold Hid numC;rw[if_pos rfl,if_pos (.inr h2)]
    go_enter Tryz.func289,Tryz.ntmps289
    go_wp2
    go_ret
    rw[HV.out]
    exact⟨rfl,by trivial⟩
   ·have HV:Hid (numC n true lo hi=0):=by unfold Hid numC;rw[if_pos rfl,if_neg (by simp only[not_or];exact⟨h1,h2⟩)]
    go_enter Tryz.func289,Tryz.ntmps289
    go_wp2
    go_ret
    rw[HV.out]
    exact⟨rfl,by trivial⟩
 | false =>
  by_cases h0:n=0
  ·have HV:Hid (numC n false lo hi=0):=by unfold Hid numC;rw[if_neg (by decide),if_pos h0]
   subst h0
   go_enter Tryz.func289,Tryz.ntmps289
   go_wp2
   go_ret
   rw[HV.out]
   exact⟨rfl,by trivial⟩
  ·have HV:Hid (numC n false lo hi=1):=by unfold Hid numC;rw[if_neg (by decide),if_neg h0]
   have e0:(n != 0)=true:=bne_iff_ne.2 h0
   clear h0
   go_enter Tryz.func289,Tryz.ntmps289
   go_wp2
   go_ret
   rw[HV.out]
   exact⟨rfl,by trivial⟩
-- CHECK
set_option maxRecDepth 100000 in
set_option maxHeartbeats 40000000 in
theorem rlegCheck_any (l:Lg) (w:World) (hok:LgOk l) :
  Calls Tryz.prog 212 #[.agg (lgc l).toArray] w fun e w'=>e=.returned (.int .i64 (legE l))∧Below w.heap.size w w':=by
 obtain⟨ty,fi,ce,tn,ov,cr,ds,ra,th,lo,hi,sp,rn⟩:=l
 obtain⟨z1,z2,z3,z4⟩:=hok
 simp only at z1 z2 z3 z4
 obtain⟨w1,hw1⟩:∃W,w.alloc (.cells #[.int .u8 (ty:Int),.string (sb fi),.string (sb ce),.int .u8 (tn:Int),.bool ov,.int .i64 cr,.int .i64 ds,.int .i64 ra,.int .i64 th,.int .i64 lo,.int .i64 hi,.int .i64 sp,.int .i64 rn] 65)=W:=⟨_,rfl⟩
 obtain⟨q,hq⟩:∃x,w.heap.size=x:=⟨_,rfl⟩
 have B1:Hid (Below w.heap.size w w1):=by rw[←hw1];exact(Below.refl _ _).alloc (Nat.le_refl _) _
 have X1:Hid (Bx q #[.int .u8 (ty:Int),.string (sb fi),.string (sb ce),.int .u8 (tn:Int),.bool ov,.int .i64 cr,.int .i64 ds,.int .i64 ra,.int .i64 th,.int .i64 lo,.int .i64 hi,.int .i64 sp,.int .i64 rn] 65 w1):=by rw[←hw1,←hq];exact Bx.last w _ _
 have HW1:=Lib.hid hw1
 have HQ:=Lib.hid hq
 have us:=fun W=>ruses_any ty W z3
 have hnil:=rkU_nil ty
 have HRET:=Lib.hid (fun(er:Int) (W:World) (h:legE ⟨ty,fi,ce,tn,ov,cr,ds,ra,th,lo,hi,sp,rn⟩=er) (hb:Below w.heap.size w W)=>(⟨by rw[h],hb⟩:(Ending.returned (Value.int .i64 er)=.returned (.int .i64 (legE ⟨ty,fi,ce,tn,ov,cr,ds,ra,th,lo,hi,sp,rn⟩)))∧Below w.heap.size w W))
 unfold lgc
 have x0:=X1.out.cell 0 (u:=.int .u8 (ty:Int)) rfl
 have xl:=X1.out.lt
 have sn:=str_nil (a:=rkU ty)
 by_cases hty:1≤ty∧ty≤17
 rotate_left
 ·have HV:Hid (legE ⟨ty,fi,ce,tn,ov,cr,ds,ra,th,lo,hi,sp,rn⟩=17):=by unfold Hid legE;rw[if_pos (by simp only;omega)]
  rw[decide_eq_true (p:=ty<1∨17<ty) (by omega)] at hnil
  rw[hnil] at sn
  obtain⟨U,hU⟩:∃U,rkU ty=U:=⟨_,rfl⟩
  rw[hU] at us sn
  clear hty hnil hU hw1 hq
  go_enter Tryz.func212,Tryz.ntmps212
  go_upto_region 1 with fail
  rw[HW1.out,HQ.out]
  clear HW1
  go_wp2_with fail
  refine(us _).mono ?_
  rintro e w' ⟨rfl,rfl⟩
  go_wp2
  go_ret
  exact HRET.out _ _ HV.out B1.out
 have HE:Hid (legE ⟨ty,fi,ce,tn,ov,cr,ds,ra,th,lo,hi,sp,rn⟩=fstE [refC fi (bitU (legU ty) 1),refC ce (bitU (legU ty) 2),turnE (legU ty) tn,overE (legU ty) ov,numC cr (bitU (legU ty) 16) 0 129599999,numC ds (bitU (legU ty) 32) 1 2000000,numC ra (bitU (legU ty) 64) 1 2000000,numC th (bitU (legU ty) 128) 0 129599999,altE ty lo hi,spdE sp rn]):=by
  unfold Hid legE
  rw[if_neg (by simp only;omega)]
 rw[decide_eq_false (p:=ty<1∨17<ty) (by omega)] at hnil
 rw[hnil] at sn
 obtain⟨k1,k2,k4,k8,k16,k32,k64,k128,kA⟩:=rkU_bits ty (by omega)
 have hlen:(sb (rkU ty)).size≤maxLen:=by
  have h9:∀t,t<18→(rkU t).length≤5:=by decide +kernel
  have:=h9 ty (by omega)
  have e:(sb (rkU ty)).size=(rkU ty).length:=rfl
  rw[e];unfold maxLen;omega
 have HH:=Lib.hid (fun(c:UInt8) (W:World)=>(rhas_any (sb (rkU ty)) c W hlen).mono (R':=fun e w'=>e=.returned (.bool (hasC (rkU ty) c))∧Below W.heap.size W w') (fun e w' h=>⟨by rw[h.1,bl_sb],by rw[←h.2];exact Below.refl _ _⟩))
 have h70:∀W,Calls Tryz.prog 288 #[.string (sb (rkU ty)),.int .u8 70] W fun e w'=>e=.returned (.bool (hasC (rkU ty) 70))∧Below W.heap.size W w':=fun W=>HH.out 70 W
 rw[k1] at h70
 have h67:∀W,Calls Tryz.prog 288 #[.string (sb (rkU ty)),.int .u8 67] W fun e w'=>e=.returned (.bool (hasC (rkU ty) 67))∧Below W.heap.size W w':=fun W=>HH.out 67 W
 rw[k2] at h67
 have h84:∀W,Calls Tryz.prog 288 #[.string (sb (rkU ty)),.int .u8 84] W fun e w'=>e=.returned (.bool (hasC (rkU ty) 84))∧Below W.heap.size W w':=fun W=>HH.out 84 W
 rw[k4] at h84
 have h111:∀W,Calls Tryz.prog 288 #[.string (sb (rkU ty)),.int .u8 111] W fun e w'=>e=.returned (.bool (hasC (rkU ty) 111))∧Below W.heap.size W w':=fun W=>HH.out 111 W
 rw[k8] at h111
 have h75:∀W,Calls Tryz.prog 288 #[.string (sb (rkU ty)),.int .u8 75] W fun e w'=>e=.returned (.bool (hasC (rkU ty) 75))∧Below W.heap.size W w':=fun W=>HH.out 75 W
 rw[k16] at h75
 have h68:∀W,Calls Tryz.prog 288 #[.string (sb (rkU ty)),.int .u8 68] W fun e w'=>e=.returned (.bool (hasC (rkU ty) 68))∧Below W.heap.size W w':=fun W=>HH.out 68 W
 rw[k32] at h68
 have h82:∀W,Calls Tryz.prog 288 #[.string (sb (rkU ty)),.int .u8 82] W fun e w'=>e=.returned (.bool (hasC (rkU ty) 82))∧Below W.heap.size W w':=fun W=>HH.out 82 W
 rw[k64] at h82
 have h72:∀W,Calls Tryz.prog 288 #[.string (sb (rkU ty)),.int .u8 72] W fun e w'=>e=.returned (.bool (hasC (rkU ty) 72))∧Below W.heap.size W w':=fun W=>HH.out 72 W
 rw[k128] at h72
 have h97:∀W,Calls Tryz.prog 288 #[.string (sb (rkU ty)),.int .u8 97] W fun e w'=>e=.returned (.bool (hasC (rkU ty) 97))∧Below W.heap.size W w':=fun W=>HH.out 97 W
 rw[kA] at h97
 have HTU:Hid (turnE (legU ty) tn=if bitU (legU ty) 4 then (if tn=1∨tn=2 then 0 else 1) else (if tn=0 then 0 else 1)):=rfl
 have HOV:Hid (overE (legU ty) ov=if ov=true∧bitU (legU ty) 8=false then 1 else 0):=rfl
 have HA:Hid (altE ty lo hi=if lo < -200000∨hi<lo∨6000000<hi then 2 else if climbs ty=true∧lo = -200000 then 2 else 0):=rfl
 have HSP:Hid (spdE sp rn=if sp<0∨1000<sp∨rn<0∨120000<rn then 2 else 0):=rfl
 obtain⟨U,hU⟩:∃U,rkU ty=U:=⟨_,rfl⟩
 rw[hU] at us sn h70 h67 h84 h111 h75 h68 h82 h72 h97
 obtain⟨fF,hfF⟩:∃b,bitU (legU ty) 1=b:=⟨_,rfl⟩
 rw[hfF] at HE h70
 obtain⟨fC,hfC⟩:∃b,bitU (legU ty) 2=b:=⟨_,rfl⟩
 rw[hfC] at HE h67
 obtain⟨fT,hfT⟩:∃b,bitU (legU ty) 4=b:=⟨_,rfl⟩
 rw[hfT] at h84
 obtain⟨fO,hfO⟩:∃b,bitU (legU ty) 8=b:=⟨_,rfl⟩
 rw[hfO] at h111
 obtain⟨fK,hfK⟩:∃b,bitU (legU ty) 16=b:=⟨_,rfl⟩
 rw[hfK] at HE h75
 obtain⟨fD,hfD⟩:∃b,bitU (legU ty) 32=b:=⟨_,rfl⟩
 rw[hfD] at HE h68
 obtain⟨fR,hfR⟩:∃b,bitU (legU ty) 64=b:=⟨_,rfl⟩
 rw[hfR] at HE h82
 obtain⟨fH,hfH⟩:∃b,bitU (legU ty) 128=b:=⟨_,rfl⟩
 rw[hfH] at HE h72
 obtain⟨cl,hcl⟩:∃b,climbs ty=b:=⟨_,rfl⟩
 rw[hcl] at h97 HA
 rw[hfT] at HTU
 rw[hfO] at HOV
 obtain⟨a3,ha3⟩:∃x,turnE (legU ty) tn=x:=⟨_,rfl⟩
 obtain⟨a4,ha4⟩:∃x,overE (legU ty) ov=x:=⟨_,rfl⟩
 obtain⟨a9,ha9⟩:∃x,altE ty lo hi=x:=⟨_,rfl⟩
 obtain⟨a10,ha10⟩:∃x,spdE sp rn=x:=⟨_,rfl⟩
 rw[ha3,ha4,ha9,ha10] at HE
 rw[ha3] at HTU
 rw[ha4] at HOV
 rw[ha9] at HA
 rw[ha10] at HSP
 have C1:=fun W=>(rlegRef_any (sb fi) fF W z1).mono (R':=fun e w'=>e=.returned (.int .i64 (refC fi fF))∧Below W.heap.size W w') (fun e w' h=>⟨by rw[h.1,bl_sb],h.2.below⟩)
 have C2:=fun W=>(rlegRef_any (sb ce) fC W z2).mono (R':=fun e w'=>e=.returned (.int .i64 (refC ce fC))∧Below W.heap.size W w') (fun e w' h=>⟨by rw[h.1,bl_sb],h.2.below⟩)
 have C5:=fun W=>(rlegNum_any cr fK 0 129599999 W).mono (R':=fun e w'=>e=.returned (.int .i64 (numC cr fK 0 129599999))∧Below W.heap.size W w') (fun e w' h=>⟨h.1,by rw[←h.2];exact Below.refl _ _⟩)
 have C6:=fun W=>(rlegNum_any ds fD 1 2000000 W).mono (R':=fun e w'=>e=.returned (.int .i64 (numC ds fD 1 2000000))∧Below W.heap.size W w') (fun e w' h=>⟨h.1,by rw[←h.2];exact Below.refl _ _⟩)
 have C7:=fun W=>(rlegNum_any ra fR 1 2000000 W).mono (R':=fun e w'=>e=.returned (.int .i64 (numC ra fR 1 2000000))∧Below W.heap.size W w') (fun e w' h=>⟨h.1,by rw[←h.2];exact Below.refl _ _⟩)
 have C8:=fun W=>(rlegNum_any th fH 0 129599999 W).mono (R':=fun e w'=>e=.returned (.int .i64 (numC th fH 0 129599999))∧Below W.heap.size W w') (fun e w' h=>⟨h.1,by rw[←h.2];exact Below.refl _ _⟩)
 obtain⟨a1,ha1⟩:∃x,refC fi fF=x:=⟨_,rfl⟩
 rw[ha1] at HE C1
 obtain⟨a2,ha2⟩:∃x,refC ce fC=x:=⟨_,rfl⟩
 rw[ha2] at HE C2
 obtain⟨a5,ha5⟩:∃x,numC cr fK 0 129599999=x:=⟨_,rfl⟩
 rw[ha5] at HE C5
 obtain⟨a6,ha6⟩:∃x,numC ds fD 1 2000000=x:=⟨_,rfl⟩
 rw[ha6] at HE C6
 obtain⟨a7,ha7⟩:∃x,numC ra fR 1 2000000=x:=⟨_,rfl⟩
 rw[ha7] at HE C7
 obtain⟨a8,ha8⟩:∃x,numC th fH 0 129599999=x:=⟨_,rfl⟩
 rw[ha8] at HE C8
 have D1:=Lib.hid C1
 have D2:=Lib.hid C2
 have D5:=Lib.hid C5
 have D6:=Lib.hid C6
 have D7:=Lib.hid C7
 have D8:=Lib.hid C8
 have G70:=Lib.hid h70
 have G67:=Lib.hid h67
 have G84:=Lib.hid h84
 have G111:=Lib.hid h111
 have G75:=Lib.hid h75
 have G68:=Lib.hid h68
 have G82:=Lib.hid h82
 have G72:=Lib.hid h72
 have G97:=Lib.hid h97
 clear hty hnil hU hw1 hq k1 k2 k4 k8 k16 k32 k64 k128 kA hlen HH h70 h67 h84 h111 h75 h68 h82 h72 h97 C1 C2 C5 C6 C7 C8 hfF hfC hfT hfO hfK hfD hfR hfH hcl ha1 ha2 ha3 ha4 ha5 ha6 ha7 ha8 ha9 ha10
 go_enter Tryz.func212,Tryz.ntmps212
 go_upto_region 1 with fail
 rw[HW1.out,HQ.out]
 clear HW1
 go_wp2_with fail
 refine(us _).mono ?_
 rintro e w' ⟨rfl,rfl⟩
 clear us x0 xl
 have y:=fun pb:BelBy w1=>(X1.out.via pb.h).cell 1 (u:=.string (sb fi)) rfl
 have ha:=G70.out
 have cc:=D1.out
 go_wp2_with fail
 refine wp_region_quiet_bel (by kernel_rfl) (by kernel_rfl) ?_
 repeat(quiet_step (first|(go_at_call 288;with_reducible exact Calls.bel_of (ha _))|(go_at_call 287;with_reducible exact Calls.bel_of (cc _))))
 refine wpQuiet_nil ?_
 rintro w2 ⟨pw,hwz⟩
 have BZ:Hid (Below w1.heap.size w1 w2):=by rw[hwz];exact pw.h
 have X2:=Lib.hid (X1.out.via BZ.out)
 have B2:=Lib.hid (Below.then_ B1.out BZ.out)
 clear pw hwz BZ y ha cc X1 B1 D1 G70
 by_cases h1:a1=0
 rotate_left
 ·have e1:(a1 != 0)=true:=bne_iff_ne.2 h1
  have HV:Hid (legE ⟨ty,fi,ce,tn,ov,cr,ds,ra,th,lo,hi,sp,rn⟩=a1):=by unfold Hid;rw[HE.out];(try simp only[fstE_z]);exact fstE_n h1
  clear h1
  go_wp2
  go_ret
  exact HRET.out _ _ HV.out B2.out
 subst h1
 have y:=fun pb:BelBy w2=>(X2.out.via pb.h).cell 2 (u:=.string (sb ce)) rfl
 have ha:=G67.out
 have cc:=D2.out
 go_wp2_with fail
 refine wp_region_quiet_bel (by kernel_rfl) (by kernel_rfl) ?_
 repeat(quiet_step (first|(go_at_call 288;with_reducible exact Calls.bel_of (ha _))|(go_at_call 287;with_reducible exact Calls.bel_of (cc _))))
 refine wpQuiet_nil ?_
 rintro w3 ⟨pw,hwz⟩
 have BZ:Hid (Below w2.heap.size w2 w3):=by rw[hwz];exact pw.h
 have X3:=Lib.hid (X2.out.via BZ.out)
 have B3:=Lib.hid (Below.then_ B2.out BZ.out)
 clear pw hwz BZ y ha cc X2 B2 D2 G67
 by_cases h1:a2=0
 rotate_left
 ·have e1:(a2 != 0)=true:=bne_iff_ne.2 h1
  have HV:Hid (legE ⟨ty,fi,ce,tn,ov,cr,ds,ra,th,lo,hi,sp,rn⟩=a2):=by unfold Hid;rw[HE.out];(try simp only[fstE_z]);exact fstE_n h1
  clear h1
  go_wp2
  go_ret
  exact HRET.out _ _ HV.out B3.out
 subst h1
 go_upto_region 10 with fail
 go_cut [51] (fun v wx=>v=.bool (decide (a3≠0))∧Hid (a3=0∨a3=1)∧Hid (Bx q #[.int .u8 (ty:Int),.string (sb fi),.string (sb ce),.int .u8 (tn:Int),.bool ov,.int .i64 cr,.int .i64 ds,.int .i64 ra,.int .i64 th,.int .i64 lo,.int .i64 hi,.int .i64 sp,.int .i64 rn] 65 wx)∧Hid (Below w.heap.size w wx))
 case first =>
  have y:=fun pb:BelBy w3=>(X3.out.via pb.h).cell 3 (u:=.int .u8 (tn:Int)) rfl
  have ha:=G84.out
  cases fT with
  | true =>
   by_cases t1:tn=1
   ·have h0:a3=0:=by rw[HTU.out];rw[if_pos rfl,if_pos (.inl t1)]
    have HZ3:=Lib.hid h0
    clear h0
    subst t1
    refine wp_region_quiet_bel (by kernel_rfl) (by kernel_rfl) ?_
    iterate 5 (quiet_step ((go_at_call 288;with_reducible exact Calls.bel_of (ha _))))
    refine wpQuiet_step (fun K hK => ?_)
    go_simp
    with_reducible refine hK _ ?_
    clear hK K
    iterate 3 (with_reducible refine wpQuiet_skipP (by kernel_rfl) ?_)
    simp only[Act.put,List.setIfInBounds_toArray,List.set_cons_succ,List.set_cons_zero]
    iterate 6 (quiet_step ((go_at_call 288;with_reducible exact Calls.bel_of (ha _))))
    refine wpQuiet_step (fun K hK => ?_)
    go_simp
    with_reducible refine hK _ ?_
    clear hK K
    iterate 3 (with_reducible refine wpQuiet_skipP (by kernel_rfl) ?_)
    simp only[Act.put,List.setIfInBounds_toArray,List.set_cons_succ,List.set_cons_zero]
    iterate 2 (quiet_step ((go_at_call 288;with_reducible exact Calls.bel_of (ha _))))
    refine wpQuiet_nil ?_
    rintro wz ⟨pw,hwz⟩
    have BZ:Hid (Below w3.heap.size w3 wz):=by rw[hwz];exact pw.h
    have XZ:=Lib.hid (X3.out.via BZ.out)
    have BB:=Lib.hid (Below.then_ B3.out BZ.out)
    clear pw hwz BZ y ha
    go_wp2
    go_meet
    exact⟨by rw[HZ3.out];rfl,.inl HZ3.out,XZ.out,BB.out⟩
   ·by_cases t2:tn=2
    ·have h0:a3=0:=by rw[HTU.out];rw[if_pos rfl,if_pos (.inr t2)]
     have HZ3:=Lib.hid h0
     clear h0 t1
     subst t2
     refine wp_region_quiet_bel (by kernel_rfl) (by kernel_rfl) ?_
     iterate 15 (quiet_step ((go_at_call 288;with_reducible exact Calls.bel_of (ha _))))
     refine wpQuiet_step (fun K hK => ?_)
     go_simp
     with_reducible refine hK _ ?_
     clear hK K
     iterate 3 (with_reducible refine wpQuiet_skipP (by kernel_rfl) ?_)
     simp only[Act.put,List.setIfInBounds_toArray,List.set_cons_succ,List.set_cons_zero]
     iterate 2 (quiet_step ((go_at_call 288;with_reducible exact Calls.bel_of (ha _))))
     refine wpQuiet_nil ?_
     rintro wz ⟨pw,hwz⟩
     have BZ:Hid (Below w3.heap.size w3 wz):=by rw[hwz];exact pw.h
     have XZ:=Lib.hid (X3.out.via BZ.out)
     have BB:=Lib.hid (Below.then_ B3.out BZ.out)
     clear pw hwz BZ y ha
     go_wp2
     go_meet
     exact⟨by rw[HZ3.out];rfl,.inl HZ3.out,XZ.out,BB.out⟩
    ·have h0:a3=1:=by rw[HTU.out];rw[if_pos rfl,if_neg (by simp only[not_or];exact⟨t1,t2⟩)]
     have HZ3:=Lib.hid h0
     have p1:((tn:Int) == 1)=false:=beq_eq_false_iff_ne.2 (by omega)
     have p2:((tn:Int) == 2)=false:=beq_eq_false_iff_ne.2 (by omega)
     clear h0 t1 t2
     refine wp_region_quiet_bel (by kernel_rfl) (by kernel_rfl) ?_
     iterate 11 (quiet_step ((go_at_call 288;with_reducible exact Calls.bel_of (ha _))))
     refine wpQuiet_step (fun K hK => ?_)
     go_simp
     with_reducible refine hK _ ?_
     clear hK K
     iterate 8 (with_reducible refine wpQuiet_skipP (by kernel_rfl) ?_)
     simp only[Act.put,List.setIfInBounds_toArray,List.set_cons_succ,List.set_cons_zero]
     iterate 1 (quiet_step ((go_at_call 288;with_reducible exact Calls.bel_of (ha _))))
     refine wpQuiet_nil ?_
     rintro wz ⟨pw,hwz⟩
     have BZ:Hid (Below w3.heap.size w3 wz):=by rw[hwz];exact pw.h
     have XZ:=Lib.hid (X3.out.via BZ.out)
     have BB:=Lib.hid (Below.then_ B3.out BZ.out)
     clear pw hwz BZ y ha
     go_wp2
     go_meet
     exact⟨by rw[HZ3.out];rfl,.inr HZ3.out,XZ.out,BB.out⟩
  | false =>
   by_cases t1:tn=1
   ·have h0:a3=1:=by rw[HTU.out];rw[if_neg (by decide),if_neg (by omega)]
    have HZ3:=Lib.hid h0
    clear h0
    subst t1
    refine wp_region_quiet_bel (by kernel_rfl) (by kernel_rfl) ?_
    iterate 5 (quiet_step ((go_at_call 288;with_reducible exact Calls.bel_of (ha _))))
    refine wpQuiet_step (fun K hK => ?_)
    go_simp
    with_reducible refine hK _ ?_
    clear hK K
    iterate 3 (with_reducible refine wpQuiet_skipP (by kernel_rfl) ?_)
    simp only[Act.put,List.setIfInBounds_toArray,List.set_cons_succ,List.set_cons_zero]
    iterate 2 (quiet_step ((go_at_call 288;with_reducible exact Calls.bel_of (ha _))))
    refine wpQuiet_step (fun K hK => ?_)
    go_simp
    with_reducible refine hK _ ?_
    clear hK K
    iterate 8 (with_reducible refine wpQuiet_skipP (by kernel_rfl) ?_)
    simp only[Act.put,List.setIfInBounds_toArray,List.set_cons_succ,List.set_cons_zero]
    iterate 1 (quiet_step ((go_at_call 288;with_reducible exact Calls.bel_of (ha _))))
    refine wpQuiet_nil ?_
    rintro wz ⟨pw,hwz⟩
    have BZ:Hid (Below w3.heap.size w3 wz):=by rw[hwz];exact pw.h
    have XZ:=Lib.hid (X3.out.via BZ.out)
    have BB:=Lib.hid (Below.then_ B3.out BZ.out)
    clear pw hwz BZ y ha
    go_wp2
    go_meet
    exact⟨by rw[HZ3.out];rfl,.inr HZ3.out,XZ.out,BB.out⟩
   ·by_cases t2:tn=2
    ·have h0:a3=1:=by rw[HTU.out];rw[if_neg (by decide),if_neg (by omega)]
     have HZ3:=Lib.hid h0
     clear h0 t1
     subst t2
     refine wp_region_quiet_bel (by kernel_rfl) (by kernel_rfl) ?_
     iterate 11 (quiet_step ((go_at_call 288;with_reducible exact Calls.bel_of (ha _))))
     refine wpQuiet_step (fun K hK => ?_)
     go_simp
     with_reducible refine hK _ ?_
     clear hK K
     iterate 8 (with_reducible refine wpQuiet_skipP (by kernel_rfl) ?_)
     simp only[Act.put,List.setIfInBounds_toArray,List.set_cons_succ,List.set_cons_zero]
     iterate 1 (quiet_step ((go_at_call 288;with_reducible exact Calls.bel_of (ha _))))
     refine wpQuiet_nil ?_
     rintro wz ⟨pw,hwz⟩
     have BZ:Hid (Below w3.heap.size w3 wz):=by rw[hwz];exact pw.h
     have XZ:=Lib.hid (X3.out.via BZ.out)
     have BB:=Lib.hid (Below.then_ B3.out BZ.out)
     clear pw hwz BZ y ha
     go_wp2
     go_meet
     exact⟨by rw[HZ3.out];rfl,.inr HZ3.out,XZ.out,BB.out⟩
    ·by_cases t0:tn=0
     ·have h0:a3=0:=by rw[HTU.out];rw[if_neg (by decide),if_pos t0]
      have HZ3:=Lib.hid h0
      clear h0 t1 t2
      subst t0
      refine wp_region_quiet_bel (by kernel_rfl) (by kernel_rfl) ?_
      iterate 21 (quiet_step ((go_at_call 288;with_reducible exact Calls.bel_of (ha _))))
      refine wpQuiet_nil ?_
      rintro wz ⟨pw,hwz⟩
      have BZ:Hid (Below w3.heap.size w3 wz):=by rw[hwz];exact pw.h
      have XZ:=Lib.hid (X3.out.via BZ.out)
      have BB:=Lib.hid (Below.then_ B3.out BZ.out)
      clear pw hwz BZ y ha
      go_wp2
      go_meet
      exact⟨by rw[HZ3.out];rfl,.inl HZ3.out,XZ.out,BB.out⟩
     ·have h0:a3=1:=by rw[HTU.out];rw[if_neg (by decide),if_neg t0]
      have HZ3:=Lib.hid h0
      have p1:((tn:Int) == 1)=false:=beq_eq_false_iff_ne.2 (by omega)
      have p2:((tn:Int) == 2)=false:=beq_eq_false_iff_ne.2 (by omega)
      have p0:((tn:Int) == 0)=false:=beq_eq_false_iff_ne.2 (by omega)
      have r0:((tn:Int) != 0)=true:=by rw[bne,p0];rfl
      clear h0 t0 t1 t2
      refine wp_region_quiet_bel (by kernel_rfl) (by kernel_rfl) ?_
      iterate 21 (quiet_step ((go_at_call 288;with_reducible exact Calls.bel_of (ha _))))
      refine wpQuiet_nil ?_
      rintro wz ⟨pw,hwz⟩
      have BZ:Hid (Below w3.heap.size w3 wz):=by rw[hwz];exact pw.h
      have XZ:=Lib.hid (X3.out.via BZ.out)
      have BB:=Lib.hid (Below.then_ B3.out BZ.out)
      clear pw hwz BZ y ha
      go_wp2
      go_meet
      exact⟨by rw[HZ3.out];rfl,.inr HZ3.out,XZ.out,BB.out⟩
 case rest =>
 obtain⟨rfl,h3,XW,BW⟩:=hcut
 obtain⟨w4,hww⟩:∃W,W=wc:=⟨_,rfl⟩
 rw[←hww] at XW BW ⊢
 have X4:=XW
 have B4:=BW
 clear hww XW BW X3 B3 HTU G84
 by_cases h1:a3=0
 rotate_left
 ·have e1:decide (a3≠0)=true:=decide_eq_true h1
  have HV:Hid (legE ⟨ty,fi,ce,tn,ov,cr,ds,ra,th,lo,hi,sp,rn⟩=1):=by
   have h31:a3=1:=by rcases h3.out with h|h;exact absurd h h1;exact h
   unfold Hid;rw[HE.out];(try simp only[fstE_z]);rw[h31];exact fstE_n (by decide)
  rw[e1]
  clear h1 e1
  go_wp2
  go_ret
  exact HRET.out _ _ HV.out B4.out
 subst h1
 rw[show decide ((0:Int)≠0)=false from rfl]
 clear h3
 have x4:=X4.out.cell 4 (u:=.bool ov) rfl
 have xl:=X4.out.lt
 have ha:=G111.out
 cases ov with
 | true =>
  cases fO with
  | false =>
   have HV:Hid (legE ⟨ty,fi,ce,tn,true,cr,ds,ra,th,lo,hi,sp,rn⟩=1):=by
    have h41:a4=1:=HOV.out
    unfold Hid;rw[HE.out];(try simp only[fstE_z]);rw[h41];exact fstE_n (by decide)
   go_wp2_with fail
   refine(ha _).mono ?_
   rintro e wz ⟨rfl,hbz⟩
   have BB:=Lib.hid (Below.then_ B4.out hbz)
   clear hbz
   go_wp2
   go_ret
   exact HRET.out _ _ HV.out BB.out
  | true =>
   obtain rfl:a4=0:=HOV.out
   go_wp2_with fail
   refine(ha _).mono ?_
   rintro e wz ⟨rfl,hbz⟩
   have BZ:=Lib.hid hbz
   clear hbz ha x4 xl HOV G111
   have X20:=Lib.hid (X4.out.via BZ.out)
   have B20:=Lib.hid (Below.then_ B4.out BZ.out)
   obtain⟨w20,hww⟩:∃W,W=wz:=⟨_,rfl⟩
   rw[←hww] at X20 B20 ⊢
   clear hww BZ X4 B4
   have y:=fun pb:BelBy w20=>(X20.out.via pb.h).cell 5 (u:=.int .i64 cr) rfl
   have ha:=G75.out
   have cc:=D5.out
   go_wp2_with fail
   refine wp_region_quiet_bel (by kernel_rfl) (by kernel_rfl) ?_
   repeat(quiet_step (first|(go_at_call 288;with_reducible exact Calls.bel_of (ha _))|(go_at_call 289;with_reducible exact Calls.bel_of (cc _))))
   refine wpQuiet_nil ?_
   rintro w21 ⟨pw,hwz⟩
   have BZ:Hid (Below w20.heap.size w20 w21):=by rw[hwz];exact pw.h
   have X21:=Lib.hid (X20.out.via BZ.out)
   have B21:=Lib.hid (Below.then_ B20.out BZ.out)
   clear pw hwz BZ y ha cc X20 B20 D5 G75
   by_cases h1:a5=0
   rotate_left
   ·have e1:(a5 != 0)=true:=bne_iff_ne.2 h1
    have HV:Hid (legE ⟨ty,fi,ce,tn,true,cr,ds,ra,th,lo,hi,sp,rn⟩=a5):=by unfold Hid;rw[HE.out];(try simp only[fstE_z]);exact fstE_n h1
    clear h1
    go_wp2
    go_ret
    exact HRET.out _ _ HV.out B21.out
   subst h1
   have y:=fun pb:BelBy w21=>(X21.out.via pb.h).cell 6 (u:=.int .i64 ds) rfl
   have ha:=G68.out
   have cc:=D6.out
   go_wp2_with fail
   refine wp_region_quiet_bel (by kernel_rfl) (by kernel_rfl) ?_
   repeat(quiet_step (first|(go_at_call 288;with_reducible exact Calls.bel_of (ha _))|(go_at_call 289;with_reducible exact Calls.bel_of (cc _))))
   refine wpQuiet_nil ?_
   rintro w22 ⟨pw,hwz⟩
   have BZ:Hid (Below w21.heap.size w21 w22):=by rw[hwz];exact pw.h
   have X22:=Lib.hid (X21.out.via BZ.out)
   have B22:=Lib.hid (Below.then_ B21.out BZ.out)
   clear pw hwz BZ y ha cc X21 B21 D6 G68
   by_cases h1:a6=0
   rotate_left
   ·have e1:(a6 != 0)=true:=bne_iff_ne.2 h1
    have HV:Hid (legE ⟨ty,fi,ce,tn,true,cr,ds,ra,th,lo,hi,sp,rn⟩=a6):=by unfold Hid;rw[HE.out];(try simp only[fstE_z]);exact fstE_n h1
    clear h1
    go_wp2
    go_ret
    exact HRET.out _ _ HV.out B22.out
   subst h1
   have y:=fun pb:BelBy w22=>(X22.out.via pb.h).cell 7 (u:=.int .i64 ra) rfl
   have ha:=G82.out
   have cc:=D7.out
   go_wp2_with fail
   refine wp_region_quiet_bel (by kernel_rfl) (by kernel_rfl) ?_
   repeat(quiet_step (first|(go_at_call 288;with_reducible exact Calls.bel_of (ha _))|(go_at_call 289;with_reducible exact Calls.bel_of (cc _))))
   refine wpQuiet_nil ?_
   rintro w23 ⟨pw,hwz⟩
   have BZ:Hid (Below w22.heap.size w22 w23):=by rw[hwz];exact pw.h
   have X23:=Lib.hid (X22.out.via BZ.out)
   have B23:=Lib.hid (Below.then_ B22.out BZ.out)
   clear pw hwz BZ y ha cc X22 B22 D7 G82
   by_cases h1:a7=0
   rotate_left
   ·have e1:(a7 != 0)=true:=bne_iff_ne.2 h1
    have HV:Hid (legE ⟨ty,fi,ce,tn,true,cr,ds,ra,th,lo,hi,sp,rn⟩=a7):=by unfold Hid;rw[HE.out];(try simp only[fstE_z]);exact fstE_n h1
    clear h1
    go_wp2
    go_ret
    exact HRET.out _ _ HV.out B23.out
   subst h1
   have y:=fun pb:BelBy w23=>(X23.out.via pb.h).cell 8 (u:=.int .i64 th) rfl
   have ha:=G72.out
   have cc:=D8.out
   go_wp2_with fail
   refine wp_region_quiet_bel (by kernel_rfl) (by kernel_rfl) ?_
   repeat(quiet_step (first|(go_at_call 288;with_reducible exact Calls.bel_of (ha _))|(go_at_call 289;with_reducible exact Calls.bel_of (cc _))))
   refine wpQuiet_nil ?_
   rintro w24 ⟨pw,hwz⟩
   have BZ:Hid (Below w23.heap.size w23 w24):=by rw[hwz];exact pw.h
   have X24:=Lib.hid (X23.out.via BZ.out)
   have B24:=Lib.hid (Below.then_ B23.out BZ.out)
   clear pw hwz BZ y ha cc X23 B23 D8 G72
   by_cases h1:a8=0
   rotate_left
   ·have e1:(a8 != 0)=true:=bne_iff_ne.2 h1
    have HV:Hid (legE ⟨ty,fi,ce,tn,true,cr,ds,ra,th,lo,hi,sp,rn⟩=a8):=by unfold Hid;rw[HE.out];(try simp only[fstE_z]);exact fstE_n h1
    clear h1
    go_wp2
    go_ret
    exact HRET.out _ _ HV.out B24.out
   subst h1
   have x9:=X24.out.cell 9 (u:=.int .i64 lo) rfl
   have x10:=X24.out.cell 10 (u:=.int .i64 hi) rfl
   have x11:=X24.out.cell 11 (u:=.int .i64 sp) rfl
   have x12:=X24.out.cell 12 (u:=.int .i64 rn) rfl
   have xl:=X24.out.lt
   have ha:=G97.out
   have H2:Hid (a9=2→legE ⟨ty,fi,ce,tn,true,cr,ds,ra,th,lo,hi,sp,rn⟩=2):=fun h=>by rw[HE.out,h];(try simp only[fstE_z]);exact fstE_n (by decide)
   have H3:Hid (a9=0→a10=2→legE ⟨ty,fi,ce,tn,true,cr,ds,ra,th,lo,hi,sp,rn⟩=2):=fun h h2=>by rw[HE.out,h,h2];(try simp only[fstE_z]);exact fstE_n (by decide)
   have H4:Hid (a9=0→a10=0→legE ⟨ty,fi,ce,tn,true,cr,ds,ra,th,lo,hi,sp,rn⟩=0):=fun h h2=>by rw[HE.out,h,h2];(try simp only[fstE_z]);rfl
   clear HE
   by_cases hA:lo < -200000∨hi<lo∨6000000<hi
   ·have HV:=Lib.hid (H2.out (by rw[HA.out,if_pos hA]))
    have hA2:decide (lo < -200000)=true∨(decide (lo < -200000)=false∧decide (hi<lo)=true)∨(decide (lo < -200000)=false∧decide (hi<lo)=false∧decide (6000000<hi)=true):=by
     simp only[decide_eq_true_eq,decide_eq_false_iff_not];omega
    clear hA HA HSP H2 H3 H4 ha G97
    rcases hA2 with h1|⟨h1,h2⟩|⟨h1,h2,h3⟩
    all_goals
     go_wp2
     go_ret
     exact HRET.out _ _ HV.out B24.out
   have d1:decide (lo < -200000)=false:=decide_eq_false (by omega)
   have d2:decide (hi<lo)=false:=decide_eq_false (by omega)
   have d3:decide (6000000<hi)=false:=decide_eq_false (by omega)
   by_cases hB:cl=true∧lo = -200000
   ·obtain⟨rfl,rfl⟩:=hB
    have HV:=Lib.hid (H2.out (by rw[HA.out,if_neg hA,if_pos ⟨rfl,rfl⟩]))
    clear hA HA HSP H2 H3 H4 G97
    go_wp2_with fail
    refine(ha _).mono ?_
    rintro e wz ⟨rfl,hbz⟩
    have BB:=Lib.hid (Below.then_ B24.out hbz)
    have xz:=(X24.out.via hbz).cell 9 (u:=.int .i64 (-200000)) rfl
    have xzl:=(X24.out.via hbz).lt
    clear hbz x9 x10 x11 x12 xl
    go_wp2
    go_ret
    exact HRET.out _ _ HV.out BB.out
   have H9:Hid (a9=0):=by unfold Hid;rw[HA.out,if_neg hA,if_neg hB]
   have hB2:cl=false∨(cl=true∧(lo == -200000)=false):=by
    cases cl with
    | false=>exact .inl rfl
    | true=>exact .inr ⟨rfl,by rw[beq_eq_false_iff_ne];exact fun e=>hB ⟨rfl,e⟩⟩
   have hS2:(Hid (a10=2)∧(decide (sp<0)=true∨(decide (sp<0)=false∧decide (1000<sp)=true)∨(decide (sp<0)=false∧decide (1000<sp)=false∧decide (rn<0)=true)∨(decide (sp<0)=false∧decide (1000<sp)=false∧decide (rn<0)=false∧decide (120000<rn)=true)))∨(Hid (a10=0)∧decide (sp<0)=false∧decide (1000<sp)=false∧decide (rn<0)=false∧decide (120000<rn)=false):=by
    simp only[decide_eq_true_eq,decide_eq_false_iff_not]
    by_cases hS:sp<0∨1000<sp∨rn<0∨120000<rn
    ·exact .inl ⟨by unfold Hid;rw[HSP.out,if_pos hS],by omega⟩
    ·exact .inr ⟨by unfold Hid;rw[HSP.out,if_neg hS],by omega⟩
   clear hA HA H2 hB HSP G97
   go_upto_region 26 with fail
   go_cut [119] (fun v wx=>v=.bool false∧Hid (Bx q #[.int .u8 (ty:Int),.string (sb fi),.string (sb ce),.int .u8 (tn:Int),.bool true,.int .i64 cr,.int .i64 ds,.int .i64 ra,.int .i64 th,.int .i64 lo,.int .i64 hi,.int .i64 sp,.int .i64 rn] 65 wx)∧Hid (Below w.heap.size w wx))
   case first =>
    go_wp2_with fail
    refine(ha _).mono ?_
    rintro e wz ⟨rfl,hbz⟩
    have BB:=Lib.hid (Below.then_ B24.out hbz)
    have XZ:=Lib.hid (X24.out.via hbz)
    have xz:=XZ.out.cell 9 (u:=.int .i64 lo) rfl
    have xzl:=XZ.out.lt
    clear hbz x9 x10 x11 x12 xl ha
    rcases hB2 with rfl|⟨rfl,hB3⟩
    all_goals
     go_wp2
     go_meet
     exact⟨rfl,XZ.out,BB.out⟩
   case rest =>
   obtain⟨rfl,XZ,BB⟩:=hcut
   clear x9 x10 x11 x12 xl hB2 d1 d2 d3 ha
   have x11:=XZ.out.cell 10 (u:=.int .i64 hi) rfl
   have x11:=XZ.out.cell 11 (u:=.int .i64 sp) rfl
   have x12:=XZ.out.cell 12 (u:=.int .i64 rn) rfl
   have xl:=XZ.out.lt
   rcases hS2 with ⟨h10,s1|⟨s1,s2⟩|⟨s1,s2,s3⟩|⟨s1,s2,s3,s4⟩⟩|⟨h10,s1,s2,s3,s4⟩
   case inr =>
    have HV:=Lib.hid (H4.out H9.out h10.out)
    go_wp2
    go_ret
    exact HRET.out _ _ HV.out BB.out
   all_goals
    have HV:=Lib.hid (H3.out H9.out h10.out)
    go_wp2
    go_ret
    exact HRET.out _ _ HV.out BB.out
 | false =>
  obtain rfl:a4=0:=HOV.out
  have BZ:=Lib.hid (Below.refl w4.heap.size w4)
  clear ha HOV G111
  go_upto_region 14 with fail
  clear x4 xl
  obtain⟨w20,hww⟩:∃W,W=w4:=⟨_,rfl⟩
  have X20:=X4
  have B20:=B4
  rw[←hww] at X20 B20 ⊢
  clear hww BZ
  have y:=fun pb:BelBy w20=>(X20.out.via pb.h).cell 5 (u:=.int .i64 cr) rfl
  have ha:=G75.out
  have cc:=D5.out
  go_wp2_with fail
  refine wp_region_quiet_bel (by kernel_rfl) (by kernel_rfl) ?_
  repeat(quiet_step (first|(go_at_call 288;with_reducible exact Calls.bel_of (ha _))|(go_at_call 289;with_reducible exact Calls.bel_of (cc _))))
  refine wpQuiet_nil ?_
  rintro w21 ⟨pw,hwz⟩
  have BZ:Hid (Below w20.heap.size w20 w21):=by rw[hwz];exact pw.h
  have X21:=Lib.hid (X20.out.via BZ.out)
  have B21:=Lib.hid (Below.then_ B20.out BZ.out)
  clear pw hwz BZ y ha cc X20 B20 D5 G75
  by_cases h1:a5=0
  rotate_left
  ·have e1:(a5 != 0)=true:=bne_iff_ne.2 h1
   have HV:Hid (legE ⟨ty,fi,ce,tn,false,cr,ds,ra,th,lo,hi,sp,rn⟩=a5):=by unfold Hid;rw[HE.out];(try simp only[fstE_z]);exact fstE_n h1
   clear h1
   go_wp2
   go_ret
   exact HRET.out _ _ HV.out B21.out
  subst h1
  have y:=fun pb:BelBy w21=>(X21.out.via pb.h).cell 6 (u:=.int .i64 ds) rfl
  have ha:=G68.out
  have cc:=D6.out
  go_wp2_with fail
  refine wp_region_quiet_bel (by kernel_rfl) (by kernel_rfl) ?_
  repeat(quiet_step (first|(go_at_call 288;with_reducible exact Calls.bel_of (ha _))|(go_at_call 289;with_reducible exact Calls.bel_of (cc _))))
  refine wpQuiet_nil ?_
  rintro w22 ⟨pw,hwz⟩
  have BZ:Hid (Below w21.heap.size w21 w22):=by rw[hwz];exact pw.h
  have X22:=Lib.hid (X21.out.via BZ.out)
  have B22:=Lib.hid (Below.then_ B21.out BZ.out)
  clear pw hwz BZ y ha cc X21 B21 D6 G68
  by_cases h1:a6=0
  rotate_left
  ·have e1:(a6 != 0)=true:=bne_iff_ne.2 h1
   have HV:Hid (legE ⟨ty,fi,ce,tn,false,cr,ds,ra,th,lo,hi,sp,rn⟩=a6):=by unfold Hid;rw[HE.out];(try simp only[fstE_z]);exact fstE_n h1
   clear h1
   go_wp2
   go_ret
   exact HRET.out _ _ HV.out B22.out
  subst h1
  have y:=fun pb:BelBy w22=>(X22.out.via pb.h).cell 7 (u:=.int .i64 ra) rfl
  have ha:=G82.out
  have cc:=D7.out
  go_wp2_with fail
  refine wp_region_quiet_bel (by kernel_rfl) (by kernel_rfl) ?_
  repeat(quiet_step (first|(go_at_call 288;with_reducible exact Calls.bel_of (ha _))|(go_at_call 289;with_reducible exact Calls.bel_of (cc _))))
  refine wpQuiet_nil ?_
  rintro w23 ⟨pw,hwz⟩
  have BZ:Hid (Below w22.heap.size w22 w23):=by rw[hwz];exact pw.h
  have X23:=Lib.hid (X22.out.via BZ.out)
  have B23:=Lib.hid (Below.then_ B22.out BZ.out)
  clear pw hwz BZ y ha cc X22 B22 D7 G82
  by_cases h1:a7=0
  rotate_left
  ·have e1:(a7 != 0)=true:=bne_iff_ne.2 h1
   have HV:Hid (legE ⟨ty,fi,ce,tn,false,cr,ds,ra,th,lo,hi,sp,rn⟩=a7):=by unfold Hid;rw[HE.out];(try simp only[fstE_z]);exact fstE_n h1
   clear h1
   go_wp2
   go_ret
   exact HRET.out _ _ HV.out B23.out
  subst h1
  have y:=fun pb:BelBy w23=>(X23.out.via pb.h).cell 8 (u:=.int .i64 th) rfl
  have ha:=G72.out
  have cc:=D8.out
  go_wp2_with fail
  refine wp_region_quiet_bel (by kernel_rfl) (by kernel_rfl) ?_
  repeat(quiet_step (first|(go_at_call 288;with_reducible exact Calls.bel_of (ha _))|(go_at_call 289;with_reducible exact Calls.bel_of (cc _))))
  refine wpQuiet_nil ?_
  rintro w24 ⟨pw,hwz⟩
  have BZ:Hid (Below w23.heap.size w23 w24):=by rw[hwz];exact pw.h
  have X24:=Lib.hid (X23.out.via BZ.out)
  have B24:=Lib.hid (Below.then_ B23.out BZ.out)
  clear pw hwz BZ y ha cc X23 B23 D8 G72
  by_cases h1:a8=0
  rotate_left
  ·have e1:(a8 != 0)=true:=bne_iff_ne.2 h1
   have HV:Hid (legE ⟨ty,fi,ce,tn,false,cr,ds,ra,th,lo,hi,sp,rn⟩=a8):=by unfold Hid;rw[HE.out];(try simp only[fstE_z]);exact fstE_n h1
   clear h1
   go_wp2
   go_ret
   exact HRET.out _ _ HV.out B24.out
  subst h1
  have x9:=X24.out.cell 9 (u:=.int .i64 lo) rfl
  have x10:=X24.out.cell 10 (u:=.int .i64 hi) rfl
  have x11:=X24.out.cell 11 (u:=.int .i64 sp) rfl
  have x12:=X24.out.cell 12 (u:=.int .i64 rn) rfl
  have xl:=X24.out.lt
  have ha:=G97.out
  have H2:Hid (a9=2→legE ⟨ty,fi,ce,tn,false,cr,ds,ra,th,lo,hi,sp,rn⟩=2):=fun h=>by rw[HE.out,h];(try simp only[fstE_z]);exact fstE_n (by decide)
  have H3:Hid (a9=0→a10=2→legE ⟨ty,fi,ce,tn,false,cr,ds,ra,th,lo,hi,sp,rn⟩=2):=fun h h2=>by rw[HE.out,h,h2];(try simp only[fstE_z]);exact fstE_n (by decide)
  have H4:Hid (a9=0→a10=0→legE ⟨ty,fi,ce,tn,false,cr,ds,ra,th,lo,hi,sp,rn⟩=0):=fun h h2=>by rw[HE.out,h,h2];(try simp only[fstE_z]);rfl
  clear HE
  by_cases hA:lo < -200000∨hi<lo∨6000000<hi
  ·have HV:=Lib.hid (H2.out (by rw[HA.out,if_pos hA]))
   have hA2:decide (lo < -200000)=true∨(decide (lo < -200000)=false∧decide (hi<lo)=true)∨(decide (lo < -200000)=false∧decide (hi<lo)=false∧decide (6000000<hi)=true):=by
    simp only[decide_eq_true_eq,decide_eq_false_iff_not];omega
   clear hA HA HSP H2 H3 H4 ha G97
   rcases hA2 with h1|⟨h1,h2⟩|⟨h1,h2,h3⟩
   all_goals
    go_wp2
    go_ret
    exact HRET.out _ _ HV.out B24.out
  have d1:decide (lo < -200000)=false:=decide_eq_false (by omega)
  have d2:decide (hi<lo)=false:=decide_eq_false (by omega)
  have d3:decide (6000000<hi)=false:=decide_eq_false (by omega)
  by_cases hB:cl=true∧lo = -200000
  ·obtain⟨rfl,rfl⟩:=hB
   have HV:=Lib.hid (H2.out (by rw[HA.out,if_neg hA,if_pos ⟨rfl,rfl⟩]))
   clear hA HA HSP H2 H3 H4 G97
   go_wp2_with fail
   refine(ha _).mono ?_
   rintro e wz ⟨rfl,hbz⟩
   have BB:=Lib.hid (Below.then_ B24.out hbz)
   have xz:=(X24.out.via hbz).cell 9 (u:=.int .i64 (-200000)) rfl
   have xzl:=(X24.out.via hbz).lt
   clear hbz x9 x10 x11 x12 xl
   go_wp2
   go_ret
   exact HRET.out _ _ HV.out BB.out
  have H9:Hid (a9=0):=by unfold Hid;rw[HA.out,if_neg hA,if_neg hB]
  have hB2:cl=false∨(cl=true∧(lo == -200000)=false):=by
   cases cl with
   | false=>exact .inl rfl
   | true=>exact .inr ⟨rfl,by rw[beq_eq_false_iff_ne];exact fun e=>hB ⟨rfl,e⟩⟩
  have hS2:(Hid (a10=2)∧(decide (sp<0)=true∨(decide (sp<0)=false∧decide (1000<sp)=true)∨(decide (sp<0)=false∧decide (1000<sp)=false∧decide (rn<0)=true)∨(decide (sp<0)=false∧decide (1000<sp)=false∧decide (rn<0)=false∧decide (120000<rn)=true)))∨(Hid (a10=0)∧decide (sp<0)=false∧decide (1000<sp)=false∧decide (rn<0)=false∧decide (120000<rn)=false):=by
   simp only[decide_eq_true_eq,decide_eq_false_iff_not]
   by_cases hS:sp<0∨1000<sp∨rn<0∨120000<rn
   ·exact .inl ⟨by unfold Hid;rw[HSP.out,if_pos hS],by omega⟩
   ·exact .inr ⟨by unfold Hid;rw[HSP.out,if_neg hS],by omega⟩
  clear hA HA H2 hB HSP G97
  go_upto_region 26 with fail
  go_cut [119] (fun v wx=>v=.bool false∧Hid (Bx q #[.int .u8 (ty:Int),.string (sb fi),.string (sb ce),.int .u8 (tn:Int),.bool false,.int .i64 cr,.int .i64 ds,.int .i64 ra,.int .i64 th,.int .i64 lo,.int .i64 hi,.int .i64 sp,.int .i64 rn] 65 wx)∧Hid (Below w.heap.size w wx))
  case first =>
   go_wp2_with fail
   refine(ha _).mono ?_
   rintro e wz ⟨rfl,hbz⟩
   have BB:=Lib.hid (Below.then_ B24.out hbz)
   have XZ:=Lib.hid (X24.out.via hbz)
   have xz:=XZ.out.cell 9 (u:=.int .i64 lo) rfl
   have xzl:=XZ.out.lt
   clear hbz x9 x10 x11 x12 xl ha
   rcases hB2 with rfl|⟨rfl,hB3⟩
   all_goals
    go_wp2
    go_meet
    exact⟨rfl,XZ.out,BB.out⟩
  case rest =>
  obtain⟨rfl,XZ,BB⟩:=hcut
  clear x9 x10 x11 x12 xl hB2 d1 d2 d3 ha
  have x11:=XZ.out.cell 10 (u:=.int .i64 hi) rfl
  have x11:=XZ.out.cell 11 (u:=.int .i64 sp) rfl
  have x12:=XZ.out.cell 12 (u:=.int .i64 rn) rfl
  have xl:=XZ.out.lt
  rcases hS2 with ⟨h10,s1|⟨s1,s2⟩|⟨s1,s2,s3⟩|⟨s1,s2,s3,s4⟩⟩|⟨h10,s1,s2,s3,s4⟩
  case inr =>
   have HV:=Lib.hid (H4.out H9.out h10.out)
   go_wp2
   go_ret
   exact HRET.out _ _ HV.out BB.out
  all_goals
   have HV:=Lib.hid (H3.out H9.out h10.out)
   go_wp2
   go_ret
   exact HRET.out _ _ HV.out BB.out
end Go.Proofs.YtgmehlgfilpleaaGreatDoor
