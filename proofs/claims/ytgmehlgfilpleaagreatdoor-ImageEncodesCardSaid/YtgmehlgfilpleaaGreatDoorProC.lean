/-
  Contract: the first error of a part of a procedure (procedure.checkPart).
-/
import Derived.Test.YtgmehlgfilpleaaGreatDoorMG05
namespace Go.Proofs.YtgmehlgfilpleaaGreatDoor
open Go.RowKit
set_option linter.unusedVariables false
set_option linter.unusedSimpArgs false
structure PcS (w:World) (pv lv kv:Value) (p:Prc) (x:Pa) (q6:Nat) (wr:World):Prop where
 pb:Bx w.heap.size #[.string (sb p.ap),.string (sb p.nm),.int .u8 (p.kd:Int),pv] 57 wr
 kn:KndR wr kv p.kd
 xb:Bx q6 #[.int .u8 (x.kd:Int),.string (sb x.nm),lv] 62 wr
 be:Below w.heap.size w wr
theorem PcS.below {w:World} {pv lv kv:Value} {p:Prc} {x:Pa} {q6:Nat} {wr w':World} (h:PcS w pv lv kv p x q6 wr) (hb:Below wr.heap.size wr w'):PcS w pv lv kv p x q6 w' :=
 ⟨h.pb.via hb,h.kn.below hb,h.xb.via hb,Below.then_ h.be hb⟩
theorem idxK_in {l:List Nat} {x:Nat} (h:x∈l):idxK l x=(l.idxOf x:Int):=if_pos h
theorem idxK_out {l:List Nat} {x:Nat} (h:¬x∈l):idxK l x = -1:=if_neg h
theorem Bx.cells4 {b:Nat} {x0 x1 x2 x3:Value} {t:TypeId} {w:World} (h:Bx b #[x0,x1,x2,x3] t w) :
  w.cell? ⟨b,0,none⟩=some x0∧w.cell? ⟨b,1,none⟩=some x1∧w.cell? ⟨b,2,none⟩=some x2∧w.cell? ⟨b,3,none⟩=some x3:=⟨h.cell 0 rfl,h.cell 1 rfl,h.cell 2 rfl,h.cell 3 rfl⟩
theorem LegT.below {w w':World} (h:LegT w) (hb:Below w.heap.size w w'):LegT w':=fun t ht=>(hb.cell (p:=⟨0,t,none⟩) (cell_lt (h t ht))).trans (h t ht)
theorem wpQuiet_skipP {P:Program} {ops:Array Oper} {C:World→Prop} {Q:Act→Prop} {o:Oper} {rest:List Oper} {a:Act} (hw:Region.wanted o (yielded ops a.tmps)=false) (h:wpQuiet P ops C Q rest (a.put o.dst undef)):wpQuiet P ops C Q (o::rest) a:=by
 unfold wpQuiet
 rw[if_neg (by rw[hw];decide)]
 exact h
theorem getD_in {α : Type} {l:List α} {i:Nat} {d : α} (h:i<l.length):l.getD i d=l[i]:=by rw[List.getD_eq_getElem?_getD,List.getElem?_eq_getElem h];rfl
theorem str_lt {a b:List UInt8}:Op.bytesLess (sb a).toList (sb b).toList=decide (a<b):=by rw[bytesLess_bl,bl_sb,bl_sb]
theorem str_is {a b:List UInt8}:((sb a).toList == (sb b).toList)=decide (a=b):=by rw[str_eqB,bl_sb,bl_sb]
theorem str_nil {a:List UInt8}:((sb a).toList == [])=decide (a=[]):=by rw[bl_toList,bl_sb,Bool.eq_iff_iff,beq_iff_eq,decide_eq_true_iff]
set_option maxRecDepth 100000 in
set_option maxHeartbeats 40000000 in
theorem checkPart_any (pv:Value) (p:Prc) (i:Nat) (w:World) (hT:LegT w) (h:PasR w pv p.pa) (hi:i<p.pa.length) (hN:p.pa.length≤1000) (hk:p.kd<256) (hprev:0<i→(p.pa.getD (i-1) pa0).kd∈kndL p.kd) :
  Calls Tryz.prog 71 #[.agg (prc (pv,p)).toArray,.int .i64 (i:Int)] w fun e w'=>e=.returned (.int .i64 (pa1E p.kd p.pa i))∧Below w.heap.size w w':=by
 have hx:=getD_in (d:=pa0) hi
 obtain⟨x,hxe⟩:∃x,p.pa[i]=x:=⟨_,rfl⟩
 rw[hxe] at hx
 have HE:Hid (pa1E p.kd p.pa i=fstE [if x.kd∈kndL p.kd then 0 else 17,if i=0 then 0 else paO p.kd x (p.pa.getD (i-1) pa0),nmdE x,if x.lg.length=0 then 1 else if 24<x.lg.length then 3 else 0,allE (lg1E p.kd x.kd x.lg) x.lg.length]):=by
  unfold Hid pa1E;rw[hx]
 obtain⟨R,hR⟩:∃R,pa1E p.kd p.pa i=R:=⟨_,rfl⟩
 rw[hR] at HE
 rw[hR]
 obtain⟨g,o,c,lv,hv,hg,hat,hnm,hkd,hlg⟩:=h.at_ hi
 rw[hxe] at hat hnm hkd hlg
 have HP:=Lib.hid h
 have HPV:=Lib.hid hprev
 have HXE:=Lib.hid hxe
 have HT:=Lib.hid hT
 have HLG:=Lib.hid hlg
 have HNL:=Lib.hid hnm
 obtain⟨Al,cl,rfl,hcl,hclm⟩:=hlg.form
 unfold maxLen at hclm
 obtain⟨n,hn⟩:∃n,p.pa.length=n:=⟨_,rfl⟩
 obtain⟨m,hm⟩:∃m,x.lg.length=m:=⟨_,rfl⟩
 have HN2:=Lib.hid hn
 have HM:=Lib.hid hm
 rw[hn] at hv hi hN
 rw[hm] at hat hcl HE
 subst hv
 have HKO:=Lib.hid (porder_any p.kd)
 have HKD:=Lib.hid hk
 clear h hprev hxe hT hlg hR hx hn hm
 obtain⟨w0,hw0⟩:∃W,w.alloc (.cells #[.string (sb p.ap),.string (sb p.nm),.int .u8 (p.kd:Int),.slice (some ⟨g,o,none⟩) n c] 57)=W:=⟨_,rfl⟩
 have B0:Hid (Below w.heap.size w w0):=by rw[←hw0];exact(Below.refl _ _).alloc (Nat.le_refl _) _
 have X0:Hid (Bx w.heap.size #[.string (sb p.ap),.string (sb p.nm),.int .u8 (p.kd:Int),.slice (some ⟨g,o,none⟩) n c] 57 w0):=by rw[←hw0];exact Bx.last w _ _
 obtain⟨x0,x1,x2,x3⟩:=X0.out.cells4
 have xl:=X0.out.lt
 have HAT:=Lib.hid hat
 have HGW:=Lib.hid hg
 have HW0:=Lib.hid hw0
 have hii:(i:Int)<(n:Int):=by omega
 have hi0:(0:Int)≤(i:Int):=by omega
 unfold prc
 simp only
 clear hw0 hat hg hk
 go_enter Tryz.func71,Tryz.ntmps71
 go_wp2_with fail
 rw[HW0.out]
 clear HW0
 refine(HKO.out _ HKD.out).mono ?_
 rintro e w1 ⟨kv,rfl,hkn,hkv,hb1⟩
 have B1:=Lib.hid (Below.then_ B0.out hb1)
 have X1:=Lib.hid (X0.out.via hb1)
 have A1:=Lib.hid (HAT.out.below HGW.out B1.out)
 obtain⟨Ak,nk,rfl⟩:=hkn.form
 have KN:=Lib.hid hkn
 clear hb1 hkn hkv B0 X0 x0 x1 x2 x3 xl HKO
 obtain⟨x0,x1,x2,x3⟩:=X1.out.cells4
 have xl:=X1.out.lt
 obtain⟨a0,a1,a2⟩:=A1.out
 have al:g<w1.heap.size:=Nat.lt_of_lt_of_le HGW.out B1.out.size
 obtain⟨q6,hq6⟩:∃q,w1.heap.size=q:=⟨_,rfl⟩
 obtain⟨w2,hw2⟩:∃W,w1.alloc (.cells #[.int .u8 (x.kd:Int),.string (sb x.nm),.slice Al m cl] 62)=W:=⟨_,rfl⟩
 have hb2:Below w1.heap.size w1 w2:=by rw[←hw2];exact(Below.refl _ _).alloc (Nat.le_refl _) _
 have S2:Hid (PcS w (.slice (some ⟨g,o,none⟩) n c) (.slice Al m cl) (.slice Ak nk nk) p x q6 w2) :=
  ⟨X1.out.via hb2,KN.out.below hb2,by rw[←hw2,←hq6];exact Bx.last w1 _ _,Below.then_ B1.out hb2⟩
 have HW2:=Lib.hid hw2
 have HQ6:=Lib.hid hq6
 have hql:w.heap.size<q6:=by rw[←hq6];exact xl
 clear hw2 hb2 hq6
 go_upto_region 3 with fail
 rw[HW2.out,HQ6.out]
 clear HW2 HQ6 x0 x1 x2 x3 xl a0 a1 a2 al B1 X1 A1 KN
 obtain⟨⟨y0,y1,y2⟩,_⟩:=S2.out.xb.cells3
 have yl:=S2.out.xb.lt
 have ix:=fun w (hb:KndR w (.slice Ak nk nk) p.kd)=>pindex_any _ p.kd x.kd w hb
 go_wp2_with fail
 refine(ix _ S2.out.kn).mono ?_
 rintro e w3 ⟨rfl,rfl⟩
 clear ix
 by_cases hin:x.kd∈kndL p.kd
 ·rw[if_pos hin,fstE_z] at HE
  rw[idxK_in hin]
  obtain⟨P,hP⟩:∃P,(kndL p.kd).idxOf x.kd=P:=⟨_,rfl⟩
  have HPI:=Lib.hid hP
  have hPl:P≤3:=by
   rw[←hP]
   have h1:=List.idxOf_le_length (a:=x.kd) (l:=kndL p.kd)
   have h2:(kndL p.kd).length≤3:=by unfold kndL;split <;> (try split) <;> (try split) <;> simp
   omega
  rw[hP]
  clear hP hin
  clear y0 y1 y2 yl
  go_upto_if 29 with (fail)
  go_cut [9] (fun _ wx=>Hid (PcS w (.slice (some ⟨g,o,none⟩) n c) (.slice Al m cl) (.slice Ak nk nk) p x q6 wx)∧Hid ((if i=0 then 0 else paO p.kd x (p.pa.getD (i-1) pa0))=0))
  case first =>
   rcases Nat.eq_zero_or_pos i with h0|h0
   ·have h0i:¬(0:Int)<(i:Int):=by omega
    have HZ:Hid ((if i=0 then 0 else paO p.kd x (p.pa.getD (i-1) pa0))=0):=by unfold Hid;rw[if_pos h0]
    clear h0
    go_wp2
    go_meet
    exact⟨S2.out,HZ.out⟩
   ·have h0i:(0:Int)<(i:Int):=by omega
    have hyin:=HPV.out h0
    obtain⟨j,hj⟩:∃j,i=j+1:=⟨i-1,by omega⟩
    subst hj
    rw[show j+1-1=j by omega] at hyin HE
    rw[if_neg (by omega)] at HE
    have hjl:j<p.pa.length:=by rw[HN2.out];omega
    rw[getD_in hjl] at hyin HE
    have HCT:Hid ((if j+1=0 then 0 else paO p.kd x (p.pa.getD (j+1-1) pa0))=paO p.kd x p.pa[j]):=by unfold Hid;rw[if_neg (by omega),show j+1-1=j by omega,getD_in hjl]
    have HP2:=Lib.hid (HP.out.below S2.out.be)
    obtain⟨g',o',c',lv',hv',hg',hat',hnm',hkd',hlg'⟩:=HP2.out.at_ hjl
    rw[HN2.out] at hv'
    simp only[Value.slice.injEq,Option.some.injEq,Addr.mk.injEq,true_and,and_true] at hv'
    obtain⟨⟨rfl,rfl⟩,rfl⟩:=hv'
    obtain⟨y,hy⟩:∃y,p.pa[j]=y:=⟨_,rfl⟩
    rw[hy] at hyin HE hat' hnm' hkd' hlg' HCT
    obtain⟨Al',cl',rfl,_,_⟩:=hlg'.form
    obtain⟨m',hm'⟩:∃m',y.lg.length=m':=⟨_,rfl⟩
    rw[hm'] at hat'
    obtain⟨a0,a1,a2⟩:=hat'
    obtain⟨x0,x1,x2,x3⟩:=S2.out.pb.cells4
    have xl:=S2.out.pb.lt
    have e1:(((j+1:Nat):Int))-1=(j:Int):=by omega
    have e2:(j:Int)<(n:Int):=by omega
    have e3:(0:Int)≤(j:Int):=by omega
    obtain⟨q8,hq8⟩:∃q,w2.heap.size=q:=⟨_,rfl⟩
    obtain⟨w4,hw4⟩:∃W,w2.alloc (.cells #[.int .u8 (y.kd:Int),.string (sb y.nm),.slice Al' m' cl'] 62)=W:=⟨_,rfl⟩
    have hb4:Below w2.heap.size w2 w4:=by rw[←hw4];exact(Below.refl _ _).alloc (Nat.le_refl _) _
    have S4:=Lib.hid (S2.out.below hb4)
    have Y4:Hid (Bx q8 #[.int .u8 (y.kd:Int),.string (sb y.nm),.slice Al' m' cl'] 62 w4):=by rw[←hw4,←hq8];exact Bx.last w2 _ _
    have HW4:=Lib.hid hw4
    have HQ8:=Lib.hid hq8
    have HYI:=Lib.hid hyin
    clear hw4 hb4 hq8 hy hm' hlg' h0 HP2 hyin
    have ge:g<w2.heap.size:=hg'
    go_upto_region 8 with fail
    rw[HW4.out,HQ8.out]
    clear HW4 HQ8 x0 x1 x2 x3 xl a0 a1 a2 ge hg'
    obtain⟨⟨z0,z1,z2⟩,_⟩:=Y4.out.cells3
    have zl:=Y4.out.lt
    have ix:=fun w (hb:KndR w (.slice Ak nk nk) p.kd)=>pindex_any _ p.kd y.kd w hb
    go_wp2_with fail
    refine(ix _ S4.out.kn).mono ?_
    rintro e w5 ⟨rfl,rfl⟩
    rw[idxK_in HYI.out]
    have HPO:Hid (paO p.kd x y=if P<(kndL p.kd).idxOf y.kd then 9 else if P=(kndL p.kd).idxOf y.kd then (if x.nm<y.nm then 9 else if x.nm=y.nm then 7 else 0) else 0):=by
     unfold Hid paO;rw[HPI.out]
    obtain⟨Q,hQ⟩:∃Q,(kndL p.kd).idxOf y.kd=Q:=⟨_,rfl⟩
    rw[hQ] at HPO
    rw[hQ]
    obtain⟨⟨y0,y1,y2⟩,_⟩:=S4.out.xb.cells3
    have yl:=S4.out.xb.lt
    have sl:=str_lt (a:=x.nm) (b:=y.nm)
    have se:=str_is (a:=x.nm) (b:=y.nm)
    have BE:=Lib.hid S4.out.be
    clear ix hQ S2
    rcases Nat.lt_trichotomy P Q with hpq|hpq|hpq
    ·have HV:Hid (R=9):=by unfold Hid;rw[HE.out,HPO.out,if_pos hpq,fstE_n (by decide)]
     have c1:(P:Int)<(Q:Int):=by omega
     clear hpq
     go_wp2
     go_ret
     exact⟨ret_int HV.out.symm,BE.out⟩
    ·subst hpq
     by_cases hlt:x.nm<y.nm
     ·have HV:Hid (R=9):=by unfold Hid;rw[HE.out,HPO.out,if_neg (by omega),if_pos rfl,if_pos hlt,fstE_n (by decide)]
      rw[decide_eq_true hlt] at sl
      clear hlt
      go_wp2
      go_ret
      exact⟨ret_int HV.out.symm,BE.out⟩
     ·by_cases heq:x.nm=y.nm
      ·have HV:Hid (R=7):=by unfold Hid;rw[HE.out,HPO.out,if_neg (by omega),if_pos rfl,if_neg hlt,if_pos heq,fstE_n (by decide)]
       rw[decide_eq_false hlt] at sl
       rw[decide_eq_true heq] at se
       clear hlt heq
       go_wp2
       go_ret
       exact⟨ret_int HV.out.symm,BE.out⟩
      ·have HV:Hid (paO p.kd x y=0):=by unfold Hid;rw[HPO.out,if_neg (by omega),if_pos rfl,if_neg hlt,if_neg heq]
       rw[decide_eq_false hlt] at sl
       rw[decide_eq_false heq] at se
       clear hlt heq
       go_wp2
       go_meet
       exact⟨S4.out,HCT.out.trans HV.out⟩
    ·have HV:Hid (paO p.kd x y=0):=by unfold Hid;rw[HPO.out,if_neg (by omega),if_neg (by omega)]
     have c1:¬(P:Int)<(Q:Int):=by omega
     have c2:((P:Int) == (Q:Int))=false:=beq_eq_false_iff_ne.2 (by omega)
     clear hpq
     go_wp2
     go_meet
     exact⟨S4.out,HCT.out.trans HV.out⟩
  case rest =>
   obtain⟨hs,hz⟩:=hcut
   rw[hz.out,fstE_z] at HE
   clear S2 hz HPI HPV
   obtain⟨⟨y0,y1,y2⟩,_⟩:=hs.out.xb.cells3
   have yl:=hs.out.xb.lt
   obtain⟨NB,hNB⟩:∃b,(x.kd == 1 || x.kd == 3)=b:=⟨_,rfl⟩
   have HNM:Hid (nmdE x=if NB=true then (if nameB x.nm 8=true then 0 else 5) else (if x.nm=[] then 0 else 5)):=by
    unfold Hid nmdE;rw[←hNB]
    by_cases h1:x.kd=1∨x.kd=3
    ·rw[if_pos h1,if_pos (show(x.kd == 1 || x.kd == 3)=true by rcases h1 with h1|h1 <;> rw[h1] <;> rfl)]
    ·rw[if_neg h1,if_neg (show ¬(x.kd == 1 || x.kd == 3)=true by simpa using h1)]
   have k1:=u8_beq x.kd 1
   have k3:=u8_beq x.kd 3
   obtain⟨K1,hk1⟩:∃b,(x.kd == 1)=b:=⟨_,rfl⟩
   obtain⟨K3,hk3⟩:∃b,(x.kd == 3)=b:=⟨_,rfl⟩
   rw[hk1,hk3] at hNB
   rw[hk1] at k1
   rw[hk3] at k3
   replace k1:((x.kd:Int) == 1)=K1:=k1
   replace k3:((x.kd:Int) == 3)=K3:=k3
   have HNB:=Lib.hid hNB
   clear hk1 hk3 hNB
   go_upto_region 13 with fail
   go_cut [10] (fun v wx=>v=.bool NB∧Hid (PcS w (.slice (some ⟨g,o,none⟩) n c) (.slice Al m cl) (.slice Ak nk nk) p x q6 wx))
   case first =>
    cases K1
    ·cases K3
     ·go_wp2;go_meet;exact⟨by rw[←HNB.out];rfl,hs.out⟩
     ·go_wp2;go_meet;exact⟨by rw[←HNB.out];rfl,hs.out⟩
    ·go_wp2;go_meet;exact⟨by rw[←HNB.out];rfl,hs.out⟩
   case rest =>
   obtain⟨rfl,hs2⟩:=hcut
   clear hs y0 y1 y2 yl k1 k3 HNB
   obtain⟨⟨y0,y1,y2⟩,_⟩:=hs2.out.xb.cells3
   have yl:=hs2.out.xb.lt
   have nm8:=fun w=>name_any (sb x.nm) 8 w HNL.out
   rw[bl_sb] at nm8
   have sn:=str_nil (a:=x.nm)
   obtain⟨N8,hN8⟩:∃b,nameB x.nm 8=b:=⟨_,rfl⟩
   rw[hN8] at nm8 HNM
   obtain⟨er,her⟩:∃e,nmdE x=e:=⟨_,rfl⟩
   rw[her] at HNM HE
   clear hN8 her
   go_upto_region 14 with fail
   go_cut [75] (fun v wx=>v=.bool (decide (er≠0))∧Hid (er=0∨er=5)∧Hid (PcS w (.slice (some ⟨g,o,none⟩) n c) (.slice Al m cl) (.slice Ak nk nk) p x q6 wx))
   case first =>
    cases NB
    ·rw[if_neg (by decide)] at HNM
     by_cases hnil:x.nm=[]
     ·have HV:Hid (er=0):=by unfold Hid;rw[HNM.out,if_pos hnil]
      rw[decide_eq_true hnil] at sn
      clear hnil
      go_wp2;go_meet;exact⟨by rw[HV.out];rfl,.inl HV.out,hs2.out⟩
     ·have HV:Hid (er=5):=by unfold Hid;rw[HNM.out,if_neg hnil]
      rw[decide_eq_false hnil] at sn
      clear hnil
      go_wp2;go_meet;exact⟨by rw[HV.out];rfl,.inr HV.out,hs2.out⟩
    ·rw[if_pos rfl] at HNM
     go_wp2_with fail
     refine(nm8 _).mono ?_
     rintro e w9 ⟨rfl,rfl⟩
     cases N8
     ·have HV:Hid (er=5):=by unfold Hid;rw[HNM.out];rfl
      go_wp2;go_meet;exact⟨by rw[HV.out];rfl,.inr HV.out,hs2.out⟩
     ·have HV:Hid (er=0):=by unfold Hid;rw[HNM.out];rfl
      go_wp2;go_meet;exact⟨by rw[HV.out];rfl,.inl HV.out,hs2.out⟩
   case rest =>
   obtain⟨rfl,her,hs3⟩:=hcut
   clear hs2 y0 y1 y2 yl nm8 sn HNM
   have BE:=Lib.hid hs3.out.be
   by_cases he0:er=0
   ·subst he0
    rw[fstE_z] at HE
    obtain⟨⟨y0,y1,y2⟩,_⟩:=hs3.out.xb.cells3
    have yl:=hs3.out.xb.lt
    by_cases hm0:m=0
    ·have HV:Hid (R=1):=by unfold Hid;rw[HE.out,if_pos hm0,fstE_n (by decide)]
     subst hm0
     go_wp2
     go_ret
     exact⟨ret_int HV.out.symm,BE.out⟩
    ·have e0:((m:Int) == 0)=false:=beq_eq_false_iff_ne.2 (by omega)
     by_cases hm24:24<m
     ·have HV:Hid (R=3):=by unfold Hid;rw[HE.out,if_neg hm0,if_pos hm24,fstE_n (by decide)]
      have e1:(24:Int)<(m:Int):=by omega
      clear hm0 hm24
      go_wp2
      go_ret
      exact⟨ret_int HV.out.symm,BE.out⟩
     ·have e1:¬(24:Int)<(m:Int):=by omega
      have hm25:m≤24:=by omega
      have HV:Hid (R=fsE (lg1E p.kd x.kd x.lg) 0 (m-0)):=by
       unfold Hid;rw[HE.out,if_neg hm0,if_neg hm24,fstE_z]
       obtain⟨z,hz⟩:∃z,allE (lg1E p.kd x.kd x.lg) m=z:=⟨_,rfl⟩
       show fstE [allE (lg1E p.kd x.kd x.lg) m]=allE (lg1E p.kd x.kd x.lg) m
       rw[hz]
       by_cases h:z=0
       ·rw[h];rfl
       ·rw[fstE_n h]
      clear hm0 hm24
      go_wp2_with fail
      go_loopw [105] (fun iv wr=>∃k:Nat,k≤m∧iv=.int .i64 (k:Int)∧Hid (R=fsE (lg1E p.kd x.kd x.lg) k (m-k))∧Hid (PcS w (.slice (some ⟨g,o,none⟩) n c) (.slice Al m cl) (.slice Ak nk nk) p x q6 wr)) (fun iv _=>m-(intOf iv).toNat)
      case atStart=>exact⟨0,Nat.zero_le _,rfl,HV.out,hs3.out⟩
      case round =>
       obtain⟨k,hkm,rfl,hR,hs⟩:=hrel
       clear y0 y1 y2 yl BE HV hs3
       have BE:=Lib.hid hs.out.be
       by_cases hlt:k<m
       ·have hki:(k:Int)<(m:Int):=by omega
        have hkl:k<x.lg.length:=by rw[HM.out];exact hlt
        have HL:=Lib.hid (HLG.out.below BE.out)
        obtain⟨g2,o2,c2,hv2,hg2,hat,hok⟩:=HL.out.at_ hkl
        rw[HM.out] at hv2
        simp only[Value.slice.injEq,true_and] at hv2
        obtain⟨rfl,rfl⟩:=hv2
        have hgd:=getD_in (d:=lg0) hkl
        have HLE:Hid (lg1E p.kd x.kd x.lg k=fstE [legE x.lg[k],if k=0 then (if opnB p.kd x.kd (x.lg[k]).ty=true then 0 else 9) else (if jnB (x.lg.getD (k-1) lg0) x.lg[k]=true then 0 else 9)]):=by unfold Hid lg1E;rw[hgd]
        obtain⟨l,hl⟩:∃l,x.lg[k]=l:=⟨_,rfl⟩
        rw[hl] at hat hok HLE
        have HAT:Hid (∀j u,(lgc l)[j]? = some u→wr.cell? ⟨g2,o2+k*13+j,none⟩=some u):=hat
        have HOK:=Lib.hid hok
        have HONE:=Lib.hid (lgc_one l)
        obtain⟨q12,hq12⟩:∃q,wr.heap.size=q:=⟨_,rfl⟩
        obtain⟨wA,hwA⟩:∃W,wr.alloc (.cells (lgc l).toArray 65)=W:=⟨_,rfl⟩
        have BA:Hid (Below wr.heap.size wr wA):=by rw[←hwA];exact(Below.refl _ _).alloc (Nat.le_refl _) _
        have SA:=Lib.hid (hs.out.below BA.out)
        have XA:Hid (Bx q12 (lgc l).toArray 65 wA):=by rw[←hwA,←hq12];exact Bx.last wr _ _
        have HWA:=Lib.hid hwA
        have HQ:=Lib.hid hq12
        have hgw:g2<wr.heap.size:=hg2
        clear hat hok hl hwA hq12 hgd hg2
        go_upto_region 23 with (first|(with_reducible refine wpList_load_wide rfl 65 (.tmp 108) rfl g2 (o2+k*13) rfl (lgc l) 13 rfl (aggLegD _) (sizeLegD _) HAT.out ?_)|(refine wpList_store_last wr _ rfl 65 (.tmp 12) (.tmp 109) rfl rfl (lgc l) rfl infoLegSD rfl HONE.out ?_))
        rw[HWA.out,HQ.out]
        clear HWA
        have xl:=XA.out.lt
        have XC:Hid (∀j u,(lgc l)[j]? = some u→wA.cell? ⟨q12,0+j,none⟩=some u):=fun j u hu=>by
         rw[Nat.zero_add];exact Bx.cell XA.out j (by rw[List.getElem?_toArray];exact hu)
        have HCK:=Lib.hid (fun W (hb:Below w.heap.size w W)=>legCheck_any l W (HT.out.below hb) HOK.out)
        go_wp2_with (with_reducible refine wpList_load_wide rfl 65 (.tmp 12) rfl q12 0 rfl (lgc l) 13 rfl (aggLegD _) (sizeLegD _) XC.out ?_)
        refine(HCK.out _ SA.out.be).mono ?_
        rintro e wB ⟨rfl,hbB⟩
        have SB:=Lib.hid (SA.out.below hbB)
        have XB:=Lib.hid (XA.out.via hbB)
        have BB:=Lib.hid SB.out.be
        clear hbB SA XA XC xl HCK HAT
        obtain⟨le,hle⟩:∃e,legE l=e:=⟨_,rfl⟩
        rw[hle] at HLE
        rw[hle]
        clear hle
        by_cases hle0:le=0
        ·subst hle0
         rw[fstE_z] at HLE
         obtain⟨ze,hze⟩:∃e,lg1E p.kd x.kd x.lg k=e:=⟨_,rfl⟩
         rw[hze] at HLE
         have HZ:=Lib.hid hze
         clear hze
         obtain⟨x0,x1,x2,x3⟩:=SB.out.pb.cells4
         have xl0:=SB.out.pb.lt
         obtain⟨⟨y0,y1,y2⟩,_⟩:=SB.out.xb.cells3
         have yl:=SB.out.xb.lt
         have xl:=XB.out.lt
         go_upto_region 26 with fail
         go_cut [140] (fun v wx=>v=.bool (decide (ze≠0))∧Hid (ze=0∨ze=9)∧Hid (PcS w (.slice (some ⟨g,o,none⟩) n c) (.slice (some ⟨g2,o2,none⟩) m cl) (.slice Ak nk nk) p x q6 wx))
         case first =>
          have p0:=fun pb:BelBy wB=>(SB.out.below pb.h).pb.cells4.1
          have p1:=fun pb:BelBy wB=>(SB.out.below pb.h).pb.cells4.2.1
          have p2:=fun pb:BelBy wB=>(SB.out.below pb.h).pb.cells4.2.2.1
          have p3:=fun pb:BelBy wB=>(SB.out.below pb.h).pb.cells4.2.2.2
          have y0:=fun pb:BelBy wB=>(SB.out.below pb.h).xb.cell 0 (u:=.int .u8 (x.kd:Int)) rfl
          have y2:=fun pb:BelBy wB=>(SB.out.below pb.h).xb.cell 2 (u:=.slice (some ⟨g2,o2,none⟩) m cl) rfl
          have l0:=fun pb:BelBy wB=>(XB.out.via pb.h).cell 0 (u:=.int .u8 (l.ty:Int)) rfl
          have e6:IntKind.i64.wrap (k:Int)=(k:Int):=IntWalk.i64_in _ (by omega)
          rcases Nat.eq_zero_or_pos k with h0|h0
          ·subst h0
           rw[if_pos rfl] at HLE
           have op:=fun W=>opens_any (.slice (some ⟨g,o,none⟩) n c) p x.kd l.ty W rfl
           unfold prc at op
           simp only at op
           obtain⟨OB,hOB⟩:∃b,opnB p.kd x.kd l.ty=b:=⟨_,rfl⟩
           rw[hOB] at op HLE
           clear hOB
           refine wp_region_quiet_bel (by kernel_rfl) (by kernel_rfl) ?_
           cases OB
           ·have HV:Hid (ze=9):=by unfold Hid;rw[HLE.out];rfl
            iterate 11 (quiet_step ((go_at_call 152;with_reducible exact Calls.bel_of (op _))))
            refine wpQuiet_step (fun K hK => ?_)
            go_simp
            with_reducible refine hK _ ?_
            clear hK K
            iterate 13 (with_reducible refine wpQuiet_skipP (by kernel_rfl) ?_)
            simp only[Act.put,List.setIfInBounds_toArray,List.set_cons_succ,List.set_cons_zero]
            quiet_step (fail)
            refine wpQuiet_nil ?_
            rintro wz ⟨pw,hwz⟩
            have SZ:=Lib.hid (SB.out.below (by rw[hwz];exact pw.h:Below wB.heap.size wB wz))
            clear hwz pw p0 p1 p2 p3 y0 y2 l0 op
            go_wp2;go_meet;exact⟨by rw[HV.out];rfl,.inr HV.out,SZ.out⟩
           ·have HV:Hid (ze=0):=by unfold Hid;rw[HLE.out];rfl
            iterate 14 (quiet_step ((go_at_call 152;with_reducible exact Calls.bel_of (op _))))
            refine wpQuiet_step (fun K hK => ?_)
            go_simp
            with_reducible refine hK _ ?_
            clear hK K
            iterate 9 (with_reducible refine wpQuiet_skipP (by kernel_rfl) ?_)
            simp only[Act.put,List.setIfInBounds_toArray,List.set_cons_succ,List.set_cons_zero]
            iterate 2 (quiet_step (fail))
            refine wpQuiet_nil ?_
            rintro wz ⟨pw,hwz⟩
            have SZ:=Lib.hid (SB.out.below (by rw[hwz];exact pw.h:Below wB.heap.size wB wz))
            clear hwz pw p0 p1 p2 p3 y0 y2 l0 op
            go_wp2;go_meet;exact⟨by rw[HV.out];rfl,.inl HV.out,SZ.out⟩
          ·rw[if_neg (by omega)] at HLE
           obtain⟨j,hj⟩:∃j,k=j+1:=⟨k-1,by omega⟩
           subst hj
           rw[show j+1-1=j by omega] at HLE
           have hjl:j<x.lg.length:=by rw[HM.out];omega
           rw[getD_in hjl] at HLE
           have HL2:=Lib.hid (HLG.out.below SB.out.be)
           obtain⟨g',o',c',hv',hg',hat',hok'⟩:=HL2.out.at_ hjl
           rw[HM.out] at hv'
           simp only[Value.slice.injEq,Option.some.injEq,Addr.mk.injEq,true_and,and_true] at hv'
           obtain⟨⟨rfl,rfl⟩,rfl⟩:=hv'
           obtain⟨y,hy⟩:∃y,x.lg[j]=y:=⟨_,rfl⟩
           rw[hy] at HLE hat' hok'
           have jn:=fun W=>joins_any y l W hok' HOK.out
           unfold lgc at jn
           obtain⟨JB,hJB⟩:∃b,jnB y l=b:=⟨_,rfl⟩
           rw[hJB] at jn HLE
           have HV:Hid (ze=if JB=true then 0 else 9):=by
            unfold Hid;rw[HLE.out];cases JB <;> rfl
           have zc:∀j2 u,(lgc y)[j2]? = some u→∀pb:BelBy wB,pb.x.cell? ⟨g2,o2+j*13+j2,none⟩=some u:=fun j2 u hu pb=>(pb.h.cell (p:=⟨g2,o2+j*13+j2,none⟩) hg').trans (hat' j2 u hu)
           have a0:∀pb:BelBy wB,pb.x.cell? ⟨g2,o2+j*13,none⟩=some (.int .u8 (y.ty:Int)):=zc 0 (.int .u8 (y.ty:Int)) rfl
           have a1:=zc 1 (.string (sb y.fi)) rfl
           have a2:=zc 2 (.string (sb y.ce)) rfl
           have a3:=zc 3 (.int .u8 (y.tn:Int)) rfl
           have a4:=zc 4 (.bool y.ov) rfl
           have a5:=zc 5 (.int .i64 y.cr) rfl
           have a6:=zc 6 (.int .i64 y.ds) rfl
           have a7:=zc 7 (.int .i64 y.ra) rfl
           have a8:=zc 8 (.int .i64 y.th) rfl
           have a9:=zc 9 (.int .i64 y.lo) rfl
           have a10:=zc 10 (.int .i64 y.hi) rfl
           have a11:=zc 11 (.int .i64 y.sp) rfl
           have a12:=zc 12 (.int .i64 y.rn) rfl
           have l1:=fun pb:BelBy wB=>(XB.out.via pb.h).cell 1 (u:=.string (sb l.fi)) rfl
           have l2:=fun pb:BelBy wB=>(XB.out.via pb.h).cell 2 (u:=.string (sb l.ce)) rfl
           have l3:=fun pb:BelBy wB=>(XB.out.via pb.h).cell 3 (u:=.int .u8 (l.tn:Int)) rfl
           have l4:=fun pb:BelBy wB=>(XB.out.via pb.h).cell 4 (u:=.bool l.ov) rfl
           have l5:=fun pb:BelBy wB=>(XB.out.via pb.h).cell 5 (u:=.int .i64 l.cr) rfl
           have l6:=fun pb:BelBy wB=>(XB.out.via pb.h).cell 6 (u:=.int .i64 l.ds) rfl
           have l7:=fun pb:BelBy wB=>(XB.out.via pb.h).cell 7 (u:=.int .i64 l.ra) rfl
           have l8:=fun pb:BelBy wB=>(XB.out.via pb.h).cell 8 (u:=.int .i64 l.th) rfl
           have l9:=fun pb:BelBy wB=>(XB.out.via pb.h).cell 9 (u:=.int .i64 l.lo) rfl
           have l10:=fun pb:BelBy wB=>(XB.out.via pb.h).cell 10 (u:=.int .i64 l.hi) rfl
           have l11:=fun pb:BelBy wB=>(XB.out.via pb.h).cell 11 (u:=.int .i64 l.sp) rfl
           have l12:=fun pb:BelBy wB=>(XB.out.via pb.h).cell 12 (u:=.int .i64 l.rn) rfl
           have e1:IntKind.i64.wrap (((j+1:Nat):Int)-1)=(j:Int):=by rw[show((j+1:Nat):Int)-1=(j:Int) by omega];exact IntWalk.i64_in _ (by omega)
           have e10:((j:Int)+1 == 0)=false:=beq_eq_false_iff_ne.2 (by omega)
           have e8:IntKind.i64.wrap (j:Int)=(j:Int):=IntWalk.i64_in _ (by omega)
           have e9:IntKind.i64.wrap ((j:Int)+1-1)=(j:Int):=by rw[show(j:Int)+1-1=(j:Int) by omega];exact e8
           have e4:(j:Int)<(m:Int):=by omega
           have e5:(((j+1:Nat):Int) == 0)=false:=beq_eq_false_iff_ne.2 (by omega)
           have e7:(0:Int)<((j+1:Nat):Int):=by omega
           have gl5:=hg'
           clear h0 hJB hy hok' hat' zc HL2 hR HLE
           cases JB
           ·refine wp_region_quiet_bel (by kernel_rfl) (by kernel_rfl) ?_
            iterate 2 (quiet_step (fail))
            refine wpQuiet_step (fun K hK => ?_)
            go_simp
            with_reducible refine hK _ ?_
            clear hK K
            iterate 7 (with_reducible refine wpQuiet_skipP (by kernel_rfl) ?_)
            simp only[Act.put,List.setIfInBounds_toArray,List.set_cons_succ,List.set_cons_zero]
            repeat(quiet_step ((go_at_call 153;with_reducible exact Calls.bel_of (jn _))))
            refine wpQuiet_nil ?_
            rintro wz ⟨pw,hwz⟩
            have SZ:=Lib.hid (SB.out.below (by rw[hwz];exact pw.h:Below wB.heap.size wB wz))
            clear hwz pw p0 p1 p2 p3 y0 y2 l0 l1 l2 l3 l4 l5 l6 l7 l8 l9 l10 l11 l12 a0 a1 a2 a3 a4 a5 a6 a7 a8 a9 a10 a11 a12 jn
            go_wp2;go_meet;exact⟨by rw[HV.out];rfl,.inr (by rw[HV.out];rfl),SZ.out⟩
           ·refine wp_region_quiet_bel (by kernel_rfl) (by kernel_rfl) ?_
            iterate 2 (quiet_step (fail))
            refine wpQuiet_step (fun K hK => ?_)
            go_simp
            with_reducible refine hK _ ?_
            clear hK K
            iterate 7 (with_reducible refine wpQuiet_skipP (by kernel_rfl) ?_)
            simp only[Act.put,List.setIfInBounds_toArray,List.set_cons_succ,List.set_cons_zero]
            repeat(quiet_step ((go_at_call 153;with_reducible exact Calls.bel_of (jn _))))
            refine wpQuiet_nil ?_
            rintro wz ⟨pw,hwz⟩
            have SZ:=Lib.hid (SB.out.below (by rw[hwz];exact pw.h:Below wB.heap.size wB wz))
            clear hwz pw p0 p1 p2 p3 y0 y2 l0 l1 l2 l3 l4 l5 l6 l7 l8 l9 l10 l11 l12 a0 a1 a2 a3 a4 a5 a6 a7 a8 a9 a10 a11 a12 jn
            go_wp2;go_meet;exact⟨by rw[HV.out];rfl,.inl (by rw[HV.out];rfl),SZ.out⟩
         case rest =>
          obtain⟨rfl,hze,hsz⟩:=hcut
          have BZ:=Lib.hid hsz.out.be
          clear x0 x1 x2 x3 xl0 y0 y1 y2 yl xl
          by_cases hz0:ze=0
          ·have HV:Hid (R=fsE (lg1E p.kd x.kd x.lg) (k+1) (m-(k+1))):=by unfold Hid;rw[hR.out,fsE_step hlt (by rw[HZ.out];exact hz0)]
           have e0:decide (ze≠0)=false:=by rw[hz0];rfl
           rw[e0]
           clear hz0 e0
           go_wp2
           go_roundw
           case rel=>exact⟨k+1,hlt,by go_num,HV,hsz⟩
           case measure=>simp[intOf];omega
          ·have HV:Hid (R=9):=by
            have h9:ze=9:=by rcases hze.out with h|h;exact absurd h hz0;exact h
            unfold Hid;rw[hR.out,fsE_hit hlt (by rw[HZ.out];exact hz0),HZ.out,h9]
           have e0:decide (ze≠0)=true:=decide_eq_true hz0
           rw[e0]
           clear hz0 e0
           go_wp2
           go_ret
           exact⟨ret_int HV.out.symm,BZ.out⟩
        ·have e9:(le != 0)=true:=bne_iff_ne.2 hle0
         have HV:Hid (R=le):=by
          unfold Hid;rw[hR.out,fsE_hit hlt (by rw[HLE.out,fstE_n hle0];exact hle0),HLE.out,fstE_n hle0]
         clear hle0
         go_wp2
         go_ret
         exact⟨ret_int HV.out.symm,BB.out⟩
       ·have HV:Hid (R=0):=by unfold Hid;rw[hR.out,fsE_end (by omega)]
        have hki:¬(k:Int)<(m:Int):=by omega
        go_wp2
        go_ret
        exact⟨ret_int HV.out.symm,BE.out⟩
   ·have HV:Hid (R=5):=by
     rcases her.out with h|h
     ·exact absurd h he0
     ·unfold Hid;rw[HE.out,h,fstE_n (by decide)]
    have e0:decide (er≠0)=true:=decide_eq_true he0
    rw[e0]
    clear he0 e0
    go_wp2
    go_ret
    exact⟨ret_int HV.out.symm,BE.out⟩
 ·have HV:Hid (R=17):=by unfold Hid;rw[HE.out,if_neg hin,fstE_n (by decide)]
  rw[idxK_out hin]
  clear hin
  go_wp2
  go_ret
  exact⟨ret_int HV.out.symm,S2.out.be⟩
end Go.Proofs.YtgmehlgfilpleaaGreatDoor
