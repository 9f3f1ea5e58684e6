/-
  Several texts as one.
-/
import Derived.Test.YtgmehlgfilpleaaGreatDoorMG07
import Derived.Test.YtgmehlgfilpleaaGreatDoorMG23
namespace Go.Proofs.YtgmehlgfilpleaaGreatDoor
open Go.RowKit
set_option linter.unusedVariables false
set_option linter.unusedSimpArgs false
def exL:List Sec:=[(1,9,45,1),(2,59,2,0),(3,66,2,0),(4,73,2,0)]
def exT (k:Nat):Nat:=[4,54,61,68,75].getD k 0
def exN (k:Nat):Nat:=[45,2,2,2].getD k 0
def exD (k:Nat):Array Value:=dbI (if k=0 then hd0 else exHd) (.slice none 0 0) (.slice none 0 0) (.slice none 0 0)
structure ExT (bs:List UInt8) (st k:Nat):Prop where
 by_:(byV bs st (exT k,false)).toNat=k+1
 s1:tkS st 1 (exT k,false)=(exT k+1,false)
 n4:loN (tkV bs st 4 (exT k+1,false))=exN k
 s4:tkS st 4 (exT k+1,false)=(exT k+5,false)
 nx:exT k+5+exN k=exT (k+1)
 le:exT (k+1)≤75
 li:exL.take (k+1)=exL.take k++[(k+1,exT k+5,exN k,if k=0 then 1 else 0)]
theorem ex_tab (k:Nat) (h:k<4):ExT exB exB.length k:=by
 rw[exB_len]
 rcases(by omega:k=0∨k=1∨k=2∨k=3) with rfl|rfl|rfl|rfl <;> exact⟨by decide +kernel,by decide +kernel,by decide +kernel,by decide +kernel,by decide +kernel,by decide +kernel,by decide +kernel⟩
theorem ex_ls (k:Nat) (h1:1≤k) (h:k<4):loN (tkV exB (exT (k+1)) 2 (exT k+5,false))=0∧tkS (exT (k+1)) 2 (exT k+5,false)=(exT (k+1),false):=by
 rcases(by omega:k=1∨k=2∨k=3) with rfl|rfl|rfl <;> exact⟨by decide +kernel,by decide +kernel⟩
theorem ex_hv:txV exB 54 (9,false)=exHd.nm∧txS exB 54 (9,false)=(14,false)∧n8V exB 54 (14,false)=2612∧n8S 54 (14,false)=(22,false)∧n8V exB 54 (22,false)=9826∧n8S 54 (22,false)=(30,false)∧n8V exB 54 (30,false)=9854∧n8S 54 (30,false)=(38,false)∧n8V exB 54 (38,false)=16560000∧n8S 54 (38,false)=(46,false)∧n8V exB 54 (46,false) = -43200000∧n8S 54 (46,false)=(54,false):=by decide +kernel
theorem imLs0_fix {g gb ob c st:Nat} {bs:List UInt8} (s:RS) (w:World) (h:RdP g gb ob c st bs s w) (h0:loN (tkV bs st 2 s)=0) :
  Calls Tryz.prog 235 #[.pointer (some ⟨g,0,none⟩),.func (.func 236) #[] #[]] w fun e w'=>e=.returned (.slice none 0 0)∧RdPTo g gb ob c st bs (tkS st 2 s) w w':=by
 go_enter Tryz.func235,Tryz.ntmps235
 go_wp2_with fail
 refine(imLow_any s 2 w h (by omega)).mono ?_
 rintro e w1 ⟨rfl,hr⟩
 have HR:=Lib.hid hr
 rw[h0]
 replace h0:IntKind.i64.wrap ((0:Nat):Int)=0:=rfl
 rw[h0]
 clear hr h
 go_wp2
 go_loopw [5,8] (fun v iv wr=>v=.slice none 0 0∧iv=.int .i64 0∧Hid (wr=w1)) (fun _ _ _=>0)
 case atStart=>exact⟨rfl,rfl,rfl⟩
 case round =>
  obtain⟨rfl,rfl,hw⟩:=hrel
  obtain rfl:wr=w1:=hw.out
  go_wp2
  go_ret
  exact⟨rfl,HR.out⟩
theorem imLs0_air {g gb ob c st:Nat} {bs:List UInt8} (s:RS) (w:World) (h:RdP g gb ob c st bs s w) (h0:loN (tkV bs st 2 s)=0) :
  Calls Tryz.prog 237 #[.pointer (some ⟨g,0,none⟩),.func (.func 238) #[] #[]] w fun e w'=>e=.returned (.slice none 0 0)∧RdPTo g gb ob c st bs (tkS st 2 s) w w':=by
 go_enter Tryz.func237,Tryz.ntmps237
 go_wp2_with fail
 refine(imLow_any s 2 w h (by omega)).mono ?_
 rintro e w1 ⟨rfl,hr⟩
 have HR:=Lib.hid hr
 rw[h0]
 replace h0:IntKind.i64.wrap ((0:Nat):Int)=0:=rfl
 rw[h0]
 clear hr h
 go_wp2
 go_loopw [5,8] (fun v iv wr=>v=.slice none 0 0∧iv=.int .i64 0∧Hid (wr=w1)) (fun _ _ _=>0)
 case atStart=>exact⟨rfl,rfl,rfl⟩
 case round =>
  obtain⟨rfl,rfl,hw⟩:=hrel
  obtain rfl:wr=w1:=hw.out
  go_wp2
  go_ret
  exact⟨rfl,HR.out⟩
theorem imLs0_proc {g gb ob c st:Nat} {bs:List UInt8} (s:RS) (w:World) (h:RdP g gb ob c st bs s w) (h0:loN (tkV bs st 2 s)=0) :
  Calls Tryz.prog 239 #[.pointer (some ⟨g,0,none⟩),.func (.func 240) #[] #[]] w fun e w'=>e=.returned (.slice none 0 0)∧RdPTo g gb ob c st bs (tkS st 2 s) w w':=by
 go_enter Tryz.func239,Tryz.ntmps239
 go_wp2_with fail
 refine(imLow_any s 2 w h (by omega)).mono ?_
 rintro e w1 ⟨rfl,hr⟩
 have HR:=Lib.hid hr
 rw[h0]
 replace h0:IntKind.i64.wrap ((0:Nat):Int)=0:=rfl
 rw[h0]
 clear hr h
 go_wp2
 go_loopw [5,8] (fun v iv wr=>v=.slice none 0 0∧iv=.int .i64 0∧Hid (wr=w1)) (fun _ _ _=>0)
 case atStart=>exact⟨rfl,rfl,rfl⟩
 case round =>
  obtain⟨rfl,rfl,hw⟩:=hrel
  obtain rfl:wr=w1:=hw.out
  go_wp2
  go_ret
  exact⟨rfl,HR.out⟩
def ImRZ (w:World) (e:Ending) (w':World):Prop :=
 ∃sv,e=.returned (.tuple #[.agg (dbI exHd (.slice none 0 0) (.slice none 0 0) (.slice none 0 0)),sv,.int .i64 0])∧Rd w' 4 sv 4 (seccells exL)∧Below w.heap.size w w'
set_option maxRecDepth 100000 in
set_option maxHeartbeats 16000000 in
theorem imReadZ (v:Value) (w:World) (h:BsV w v (sealL exB)) :
  Calls Tryz.prog 156 #[v] w (ImRZ w):=by
 have hl79:(sealL exB).length=79:=by unfold sealL;rw[List.length_append,exB_len];rfl
 obtain⟨w0,hw0⟩:∃W,w.alloc (.cells #[.string ⟨#[]⟩,.int .i64 0,.int .i64 0,.int .i64 0,.int .i64 0,.int .i64 0,.slice none 0 0,.slice none 0 0,.slice none 0 0] 30)=W:=⟨_,rfl⟩
 have hb0:Below w.heap.size w w0:=by rw[←hw0];exact(Below.refl _ _).alloc (Nat.le_refl _) _
 have B0:=Lib.hid hb0
 have X0:Hid (Bx w.heap.size #[.string ⟨#[]⟩,.int .i64 0,.int .i64 0,.int .i64 0,.int .i64 0,.int .i64 0,.slice none 0 0,.slice none 0 0,.slice none 0 0] 30 w0):=by rw[←hw0];exact Bx.last _ _ _
 have hop:=copen_any v (sealL exB) w0 (h.below hb0) (by rw[hl79];omega)
 obtain⟨A,c,rfl,-,-,-⟩:=h
 obtain⟨q0,hq⟩:∃q,w.heap.size=q:=⟨_,rfl⟩
 rw[hq] at X0
 have HQ:=Lib.hid hq
 have hs0:w0.heap.size=q0+1:=by rw[←hw0,World.size_alloc,hq]
 have HS0:=Lib.hid hs0
 have HL:=Lib.hid hl79
 obtain⟨N,hN⟩:∃N,(sealL exB).length=N:=⟨_,rfl⟩
 rw[hN]
 have HN:=Lib.hid hN
 have HW0:=Lib.hid hw0
 clear hb0 hq hs0 hl79 hN hw0
 go_enter Tryz.func156,Tryz.ntmps156
 go_wp2_with fail
 rw[HW0.out,HQ.out,←HN.out]
 clear HW0
 refine hop.mono ?_
 rintro e w1 (⟨h4,_⟩|⟨_,ho,_⟩|⟨_,_,v1,rfl,hn⟩)
 ·have:=HL.out;omega
 ·rw[(seal_ok exB).1] at ho;cases ho
 ·rw[(seal_ok exB).2] at hn
  have HTAB:Hid (∀k,k<4→ExT exB exB.length k):=ex_tab
  have HLS:Hid (∀k,1≤k→k<4→loN (tkV exB (exT (k+1)) 2 (exT k+5,false))=0∧tkS (exT (k+1)) 2 (exT k+5,false)=(exT (k+1),false)):=ex_ls
  have HHV:=Lib.hid ex_hv
  have HMG:Hid (tkV exB exB.length 4 (0,false)=magicL∧tkS exB.length 4 (0,false)=(4,false)):=by unfold Hid;rw[exB_len];exact⟨by decide +kernel,by decide +kernel⟩
  have hbl:=exB_len
  obtain⟨body,hbd⟩:∃b,exB=b:=⟨_,rfl⟩
  rw[hbd] at HTAB HLS HHV HMG hbl hn
  obtain⟨gb,cb,rfl,hcb,hmb,hgb,hba,hb1⟩:=hn
  have B1:Hid (Below w.heap.size w w1):=Below.then_ B0.out hb1
  have X1:Hid (Bx q0 #[.string ⟨#[]⟩,.int .i64 0,.int .i64 0,.int .i64 0,.int .i64 0,.int .i64 0,.slice none 0 0,.slice none 0 0,.slice none 0 0] 30 w1):=X0.out.via hb1
  have hgl:gb<w1.heap.size:=hba.1
  obtain⟨w2,hw2⟩:∃W,w1.alloc (.cells #[.slice (some ⟨gb,0,none⟩) body.length cb,.int .i64 0,.int .i64 (body.length:Int),.bool false] 291)=W:=⟨_,rfl⟩
  have hb2:Below w1.heap.size w1 w2:=by rw[←hw2];exact(Below.refl _ _).alloc (Nat.le_refl _) _
  obtain⟨q1,hq1⟩:∃q,w1.heap.size=q:=⟨_,rfl⟩
  have R2:Hid (RdP q1 gb 0 cb body.length body (0,false) w2):=by
   refine⟨by rw[←hw2,←hq1];exact(Bx.last w1 _ _:Bx w1.heap.size (rdPc gb 0 body.length cb body.length (0,false)) _ _),hba.below hb2,by omega,Nat.zero_le _,Nat.le_refl _,hcb,hmb⟩
  have B2:Hid (Below w.heap.size w w2):=Below.then_ B1.out hb2
  have X2:Hid (Bx q0 #[.string ⟨#[]⟩,.int .i64 0,.int .i64 0,.int .i64 0,.int .i64 0,.int .i64 0,.slice none 0 0,.slice none 0 0,.slice none 0 0] 30 w2):=X1.out.via hb2
  have ho1:q0<gb:=by have:=HS0.out;omega
  have ho2:gb<q1:=by omega
  obtain⟨nb,hnb⟩:∃n,body.length=n:=⟨_,rfl⟩
  have h75:nb=75:=by omega
  have H75:=Lib.hid h75
  have hbl2:nb≤1000000:=by omega
  rw[hnb] at hcb ⊢
  have HNB:=Lib.hid hnb
  rw[hnb] at hw2
  have HW2:=Lib.hid hw2
  have HQ1:=Lib.hid hq1
  clear hop B0 X0 hb1 hba hb2 hw2 hq1 X1 B1 hgb hgl hbd hbl h75
  go_wp2_with fail
  rw[HW2.out,HQ1.out]
  clear HW2 HQ1
  have ht:=imTake_any (0,false) 4 w2 R2.out (by omega)
  refine ht.mono ?_
  rintro e w3 ⟨⟨vt,rfl,hv⟩,hr⟩
  rw[HMG.out.1] at hv
  rw[HMG.out.2] at hr
  have hcv:=bsv_string hv
  obtain⟨Av,cv,hvv,-,-,-⟩:=hv
  have X3:Hid (Bx q0 #[.string ⟨#[]⟩,.int .i64 0,.int .i64 0,.int .i64 0,.int .i64 0,.int .i64 0,.slice none 0 0,.slice none 0 0,.slice none 0 0] 30 w3):=(hr.f.block q0 X2.out.lt (by omega)).trans X2.out
  have B3:Hid (Below w.heap.size w w3):=B2.out.trans (hr.f.below (by have:=B2.out.size;omega) (fun k hk=>by have:=HQ.out;omega))
  have HR3:=Lib.hid hr
  clear ht hr X2 B2 R2
  have e1:((sb magicL).toList == [70,68,66,49])=true:=by rw[bl_toList,bl_sb];rfl
  obtain⟨w4,hw4⟩:∃W,w3.alloc (.cells #[.string ⟨#[]⟩,.int .i64 0,.int .i64 0,.int .i64 0,.int .i64 0,.int .i64 0,.slice none 0 0,.slice none 0 0,.slice none 0 0] 30)=W:=⟨_,rfl⟩
  have hb4:Below w3.heap.size w3 w4:=by rw[←hw4];exact(Below.refl _ _).alloc (Nat.le_refl _) _
  obtain⟨q2,hq2⟩:∃q,w3.heap.size=q:=⟨_,rfl⟩
  have hB:w4.heap.size=q2+1:=by rw[←hw4,World.size_alloc,hq2]
  obtain⟨B,hBq⟩:∃B,q2+1=B:=⟨_,rfl⟩
  rw[hBq] at hB
  have ho3:q1<q2:=by rw[←hq2];exact HR3.out.r.lt
  have ho1':w.heap.size<gb:=by rw[HQ.out];exact ho1
  have HI:Hid (RdI w q1 q2 gb 0 cb B body (exD 0) (4,false) (.slice none 0 0) [] w4) :=
   ⟨(by rw[HQ.out];exact X3.out.via hb4),HR3.out.r.below hb4,(by rw[←hw4,←hq2];exact Bx.last _ _ _),World.ownsRow_nil _ _ _ _,Below.then_ B3.out hb4,ho1',ho2,ho3,by omega,by omega⟩
  have HW4:=Lib.hid hw4
  have HQ2:=Lib.hid hq2
  subst hvv
  clear hw4 hq2 hb4 hB HR3 X3 B3 ho1 ho1' HMG
  go_wp2_with fail
  rw[HW4.out,HQ2.out]
  clear HW4 HQ2
  obtain⟨i0,hi0,hz0,hz1,hz2⟩:=info_parts infoSecI
  go_loopw [9,10] (fun sv tv wr=>∃k:Nat,k≤4∧tv=.int .u8 ((k:Int)+1)∧Hid (RdI w q1 q2 gb 0 cb B body (exD k) (exT k,false) sv (exL.take k) wr)) (fun _ tv _=>5-(intOf tv).toNat)
  case atStart=>exact⟨0,by omega,rfl,HI.out⟩
  case round =>
   obtain⟨k,hk,rfl,hi⟩:=hrel
   obtain⟨As,ns,cs,rfl⟩:=own_form hi.out.own
   have k3:=hi.out.rd.bx.cell 3 (u:=.bool false) rfl
   clear HI
   by_cases hk4:k=4
   ·subst hk4
    have ka:=hi.out.rd.bx.cell 1 (u:=.int .i64 75) rfl
    have ks:=hi.out.rd.bx.cell 2 (u:=.int .i64 (body.length:Int)) rfl
    rw[HNB.out,H75.out] at ks
    replace ks:wr.cell? ⟨q1,2,none⟩=some (.int .i64 75):=ks
    go_wp2_with fail
    go_quiet (fail)
    have I9:Hid (RdI w q1 q2 gb 0 cb B body (exD 4) (exT 4,false) (.slice As ns cs) (exL.take 4) (wr.drewN nq)):=hi.out.below (below_drewN' (Below.refl _ _) nq)
    obtain⟨wq,hwq⟩:∃W,wr.drewN nq=W:=⟨_,rfl⟩
    rw[hwq] at I9 ⊢
    have XD:Hid (Bx q2 (dbL exHd (.slice none 0 0) (.slice none 0 0) (.slice none 0 0)).toArray 30 wq):=I9.out.dbx
    have hone:=dbL_one exHd LF.nil LF.nil LF.nil
    have hcl:(dbL exHd (.slice none 0 0) (.slice none 0 0) (.slice none 0 0)).length=9:=rfl
    have HPO:Hid (∀W,Below w.heap.size w W→Rd W 4 (.slice As ns cs) 4 (seccells exL)→ImRZ w (.returned (.tuple #[.agg (dbL exHd (.slice none 0 0) (.slice none 0 0) (.slice none 0 0)).toArray,.slice As ns cs,.int .i64 0])) W):=fun W hW hrd=>⟨_,rfl,hrd,hW⟩
    obtain⟨CS,hCS⟩:∃l,dbL exHd (.slice none 0 0) (.slice none 0 0) (.slice none 0 0)=l:=⟨_,rfl⟩
    rw[hCS] at HPO XD hone hcl
    have HON:=Lib.hid hone
    have HCL:=Lib.hid hcl
    have HCS:Hid (∀j u,CS[j]? = some u→wq.cell? ⟨q2,0+j,none⟩=some u):=fun j u hu=>by rw[Nat.zero_add];exact XD.out.cell j (by simpa using hu)
    have XO:Hid (Bx q0 #[.string ⟨#[]⟩,.int .i64 0,.int .i64 0,.int .i64 0,.int .i64 0,.int .i64 0,.slice none 0 0,.slice none 0 0,.slice none 0 0] 30 wq):=by have:=I9.out.res;rw[HQ.out] at this;exact this
    have BQ:=Lib.hid I9.out.be
    have RQ:Hid (Rd (wq.setRow q0 CS.toArray) 4 (.slice As ns cs) 4 (seccells exL)):=by
     have h1:=I9.out.own
     have h2:Frm (· = q0) wq (wq.setRow q0 CS.toArray):=⟨rfl,rfl,rfl,by simp[World.setRow],fun k hk hn=>setRow_other wq q0 k _ hn⟩
     have hlow:q0<B:=by have:=I9.out.o1;have:=I9.out.o2;have:=I9.out.o3;have:=I9.out.o4;have:=HQ.out;omega
     exact Rd.of_own (own_frm2 h1 h2 hlow)
    have hsz2:(#[.string ⟨#[]⟩,.int .i64 0,.int .i64 0,.int .i64 0,.int .i64 0,.int .i64 0,.slice none 0 0,.slice none 0 0,.slice none 0 0]:Array Value).size=CS.toArray.size:=by show 9=CS.length;exact hcl.symm
    have HS2:=Lib.hid hsz2
    clear hwq hi I9 XD hone hcl hCS ka ks k3 hsz2
    go_wp2_with (first|(with_reducible refine wpList_load_wide rfl 30 (.tmp 8) rfl q2 0 rfl CS 9 HCL.out (aggDB9 _) (sizeDB9 _) HCS.out ?_)|(refine wpList_plain rfl fun _ hK=>wp_store_row 30 (.tmp 2) (.tmp 175) rfl q0 CS.toArray rfl rfl 30 _ XO.out (by rw[List.size_toArray,HCL.out];exact infoDB9) HS2.out (by rw[Array.all_eq_true_iff_forall_mem];intro u hu;exact HON.out u (by simpa using hu)) (hK _ _ ?_)))
    have FX0:Bx q0 CS.toArray 30 (wq.setRow q0 CS.toArray):=setRow_heap _ q0 _ CS.toArray 30 (0,0) XO.out
    have HPF:=HPO.out _ (row_below BQ.out HQ.out) RQ.out
    obtain⟨W9,hW9⟩:∃W,wq.setRow q0 CS.toArray=W:=⟨_,rfl⟩
    rw[hW9] at FX0 HPF ⊢
    have HPG:=Lib.hid HPF
    have hcl:=HCL.out
    clear hW9 HPF HPO HCL HS2 HCS HON XO RQ BQ
    obtain⟨v0,v1,v2,v3,v4,v5,v6,v7,v8,rfl⟩:=len9 hcl
    obtain⟨⟨x0,x1,x2,x3,x4,x5,x6,x7,x8⟩,_⟩:=Bx.cells9 FX0
    refine bodyPost_ret (v:=.tuple #[.agg #[v0,v1,v2,v3,v4,v5,v6,v7,v8],.slice As ns cs,.int .i64 0]) (by simp[results,Tryz.results156,go_sem,x0,x1,x2,x3,x4,x5,x6,x7,x8];try rfl) rfl ?_
    exact HPG.out
   ·have hlt:k<4:=by omega
    have hle:(k:Int)+1≤4:=by omega
    obtain⟨t1,t2,t3,t4,t5,t6,t7⟩:=HTAB.out k hlt
    obtain⟨L,hL⟩:∃l,exL.take k=l:=⟨_,rfl⟩
    obtain⟨a,ha⟩:∃a,exT k=a:=⟨_,rfl⟩
    obtain⟨n,hn⟩:∃n,exN k=n:=⟨_,rfl⟩
    rw[ha] at hi t1 t2 t3 t4 t5 t7
    rw[hn] at t3 t5 t7
    rw[hL] at hi t7
    have HA:=Lib.hid ha
    have HT7:=Lib.hid t7
    have HLk:Hid (L.length=k):=by unfold Hid;rw[←hL,List.length_take];show min k 4=k;omega
    obtain⟨stp,hstp⟩:∃x,exT (k+1)=x:=⟨_,rfl⟩
    rw[hstp] at t5 t6
    have HSTQ:=Lib.hid hstp
    clear ha hn hL hstp t7
    go_wp2_with fail
    refine(imByte_any (a,false) _ hi.out.rd).mono ?_
    rintro e w5 ⟨rfl,hr⟩
    obtain⟨bv,hbv⟩:∃x:Nat,(byV body body.length (a,false)).toNat=x:=⟨_,rfl⟩
    rw[hbv] at t1 ⊢
    rw[t2] at hr
    have I5:=Lib.hid (hi.out.call hr)
    have kk3:=hr.r.bx.cell 3 (u:=.bool false) rfl
    have ff3:=hr.r.bx.free 3
    clear hr hi k3 hbv t2
    have hkk:IntKind.u8.wrap ((k:Int)+1)=(k:Int)+1:=by rw[IntKind.wrap_u8'];omega
    have e5:(((bv:Int)) == (k:Int)+1)=true:=by rw[beq_iff_eq];omega
    have p5:(((bv:Int)) != (k:Int)+1)=false:=by rw[bne,e5];rfl
    go_wp2_with fail
    refine(imLow_any (a+1,false) 4 _ I5.out.rd (by omega)).mono ?_
    rintro e w6 ⟨rfl,hr⟩
    rw[t3]
    rw[t4] at hr
    have I6:=Lib.hid (I5.out.call hr)
    have hwn:IntKind.i64.wrap (n:Int)=(n:Int):=by rw[IntKind.wrap_i64];omega
    rw[hwn]
    have kb:=hr.r.bx.cell 3 (u:=.bool false) rfl
    have ka:=hr.r.bx.cell 1 (u:=.int .i64 ((a+5:Nat):Int)) rfl
    rw[show((a+5:Nat):Int)=(a:Int)+5 by omega] at ka
    have hgi:¬(nb:Int)-((a:Int)+5)<(n:Int):=by have:=H75.out;omega
    have hst:a+5+n≤nb:=by have:=H75.out;omega
    have hal:a+5≤nb:=by omega
    clear kk3 ff3 hwn I5 hr t1 t3 t4
    obtain⟨w7,hw7⟩:∃W,w6.alloc (.cells #[.int .u8 ((k:Int)+1),.int .i64 ((a:Int)+5),.int .i64 (n:Int),.int .i64 1] 129)=W:=⟨_,rfl⟩
    have hb7:Below w6.heap.size w6 w7:=by rw[←hw7];exact(Below.refl _ _).alloc (Nat.le_refl _) _
    obtain⟨q3,hq3⟩:∃q,w6.heap.size=q:=⟨_,rfl⟩
    have I7:=Lib.hid (I6.out.below hb7)
    have X7:Hid (Bx q3 #[.int .u8 ((k:Int)+1),.int .i64 ((a:Int)+5),.int .i64 (n:Int),.int .i64 1] 129 w7):=by rw[←hw7,←hq3];exact Bx.last _ _ _
    have hs7:w7.heap.size=q3+1:=by rw[←hw7,World.size_alloc,hq3]
    have HS7:=Lib.hid hs7
    have HQ3:=Lib.hid hq3
    have HW7:=Lib.hid hw7
    have hB3:B≤q3:=by rw[←hq3];exact I6.out.hi
    have HOB:Hid (∀b,(Value.slice As ns cs).ownBlock=some b→b<q3):=fun b hb=>by rw[←hq3];exact(I6.out.own.lt b hb).2
    clear hw7 hq3 hs7 I6
    go_wp2_with fail
    rw[HW7.out,HQ3.out]
    clear HW7 HQ3 kb ka
    have ka:=I7.out.rd.bx.cell 1 (u:=.int .i64 ((a+5:Nat):Int)) rfl
    rw[show((a+5:Nat):Int)=(a:Int)+5 by omega] at ka
    have hwa:IntKind.i64.wrap ((a:Int)+5+(n:Int))=(a:Int)+5+(n:Int):=by rw[IntKind.wrap_i64];omega
    go_region
    obtain⟨w8,hw8⟩:∃W,(w7.alloc (.cells #[.slice (some ⟨gb,0,none⟩) nb cb,.int .i64 ((a:Int)+5),.int .i64 ((a:Int)+5+(n:Int)),.bool false] 291)).drew=W:=⟨_,rfl⟩
    have hb8':Below w7.heap.size w7 w8:=by rw[←hw8];exact((Below.refl _ _).alloc (Nat.le_refl _) _).drew
    obtain⟨q4,hq4⟩:∃q,w7.heap.size=q:=⟨_,rfl⟩
    have C8:Hid (RdP q4 gb 0 cb stp body (a+5,false) w8):=by
     have hx:Bx w7.heap.size (rdPc gb 0 body.length cb stp (a+5,false)) 291 w8:=by
      unfold rdPc
      rw[HNB.out,←hw8,show((stp:Nat):Int)=(a:Int)+5+(n:Int) by omega]
      simp only[show((a+5:Nat):Int)=(a:Int)+5 by omega]
      exact Bx.last w7 _ _
     have hg7:=I7.out.rd.by_.1
     rw[hq4] at hx
     refine⟨hx,I7.out.rd.by_.below hb8',by omega,by show a+5≤stp;omega,by rw[HNB.out];have:=H75.out;omega,by rw[HNB.out];exact hcb,hmb⟩
    have I8:=Lib.hid (I7.out.below hb8')
    have X8:=Lib.hid (Bx.via hb8' X7.out)
    rw[hw8,hq4]
    have h34:q4=q3+1:=by rw[←hq4];exact HS7.out
    have h23:q2<q3:=by have:=I7.out.o4;omega
    clear hb8' hw8 hq4 I7 X7 ka hwa HS7
    have H34:=Lib.hid h34
    have h24:q2<q4:=by omega
    have hg4:q1<q4:=by omega
    have h3n4:q3≠q4:=by omega
    have HB4:Hid (B≤q4∧(Value.slice As ns cs).ownBlock≠some q4):=⟨by omega,fun e=>by have:=HOB.out _ e;omega⟩
    have HB3:Hid (B≤q3∧(Value.slice As ns cs).ownBlock≠some q3):=⟨hB3,fun e=>by have:=HOB.out _ e;omega⟩
    have HSTP:=Lib.hid t5
    clear h34
    go_upto_region 19 with fail
    go_cut [89] (fun u wx=>u=.int .u8 ((k:Int)+1)∧wx=w8)
    case first =>
     go_wp2
     go_meet
     exact⟨rfl,rfl⟩
    case rest =>
    obtain⟨rfl,rfl⟩:=hcut
    rename_i KK hKK
    refine hKK _ _ ?_
    go_cut [97] (fun _ wx=>Hid (RdI w q1 q2 gb 0 cb B body (dbI exHd (.slice none 0 0) (.slice none 0 0) (.slice none 0 0)) (a+5,false) (.slice As ns cs) L wx)∧Hid (RdP q4 gb 0 cb stp body (stp,false) wx)∧Hid (Bx q3 #[.int .u8 ((k:Int)+1),.int .i64 ((a:Int)+5),.int .i64 (n:Int),.int .i64 ((if k=0 then 1 else 0:Nat):Int)] 129 wx))
    case first =>
     rcases(by omega:k=0∨k=1∨k=2∨k=3) with hkj|hkj|hkj|hkj
     ·have t1:(((k:Int)+1) == 1)=true:=by rw[beq_iff_eq];omega
      have hst9:stp=54∧a+5=9:=by
       have h1:=HSTQ.out
       have h2:=HA.out
       rw[hkj] at h1 h2
       exact⟨h1.symm,by rw[←h2];rfl⟩
      obtain⟨hst9,ha9⟩:=hst9
      rw[hst9,ha9] at C8
      have HD8:=I8.out.dbx
      rw[show exD k=dbI hd0 (.slice none 0 0) (.slice none 0 0) (.slice none 0 0) by rw[hkj];rfl] at HD8
      have HHD:=HHV.out
      have HKJ:=Lib.hid hkj
      clear hkj
      go_wp2_with fail
      refine(imText_any (9,false) _ C8.out).mono ?_
      rintro e w9 ⟨rfl,hr⟩
      rw[HHD.1]
      rw[HHD.2.1] at hr
      have T1:=Lib.hid hr
      clear hr
      go_wp2_with fail
      refine(imNum_any (14,false) _ T1.out.r).mono ?_
      rintro e w10 ⟨rfl,hr⟩
      rw[HHD.2.2.1]
      rw[HHD.2.2.2.1] at hr
      have T2:=Lib.hid (T1.out.then_ hr)
      clear hr T1
      go_wp2_with fail
      refine(imNum_any (22,false) _ T2.out.r).mono ?_
      rintro e w11 ⟨rfl,hr⟩
      rw[HHD.2.2.2.2.1]
      rw[HHD.2.2.2.2.2.1] at hr
      have T3:=Lib.hid (T2.out.then_ hr)
      clear hr T2
      go_wp2_with fail
      refine(imNum_any (30,false) _ T3.out.r).mono ?_
      rintro e w12 ⟨rfl,hr⟩
      rw[HHD.2.2.2.2.2.2.1]
      rw[HHD.2.2.2.2.2.2.2.1] at hr
      have T4:=Lib.hid (T3.out.then_ hr)
      clear hr T3
      go_wp2_with fail
      refine(imNum_any (38,false) _ T4.out.r).mono ?_
      rintro e w13 ⟨rfl,hr⟩
      rw[HHD.2.2.2.2.2.2.2.2.1]
      rw[HHD.2.2.2.2.2.2.2.2.2.1] at hr
      have T5:=Lib.hid (T4.out.then_ hr)
      clear hr T4
      go_wp2_with fail
      refine(imNum_any (46,false) _ T5.out.r).mono ?_
      rintro e w14 ⟨rfl,hr⟩
      rw[HHD.2.2.2.2.2.2.2.2.2.2.1]
      rw[HHD.2.2.2.2.2.2.2.2.2.2.2] at hr
      have T6:=Lib.hid (T5.out.then_ hr)
      clear hr T5
      have I9:=Lib.hid (I8.out.step T6.out.f (fun j hj=>.inr (by subst hj;exact HB4.out)) ((T6.out.f.block q2 I8.out.dbx.lt (by omega)).trans HD8))
      have X9:Hid (Bx q3 #[.int .u8 ((k:Int)+1),.int .i64 ((a:Int)+5),.int .i64 (n:Int),.int .i64 1] 129 w14):=(T6.out.f.block q3 X8.out.lt h3n4).trans X8.out
      have C9:Hid (RdP q4 gb 0 cb stp body (stp,false) w14):=by rw[hst9];exact T6.out.r
      have yl:=I9.out.dbx.lt
      have y0:=I9.out.dbx.cell 0 (u:=.string (sb [])) rfl
      have f0:=I9.out.dbx.free 0
      have y1:=I9.out.dbx.cell 1 (u:=.int .i64 0) rfl
      have f1:=I9.out.dbx.free 1
      have y2:=I9.out.dbx.cell 2 (u:=.int .i64 0) rfl
      have f2:=I9.out.dbx.free 2
      have y3:=I9.out.dbx.cell 3 (u:=.int .i64 0) rfl
      have f3:=I9.out.dbx.free 3
      have y4:=I9.out.dbx.cell 4 (u:=.int .i64 0) rfl
      have f4:=I9.out.dbx.free 4
      have y5:=I9.out.dbx.cell 5 (u:=.int .i64 0) rfl
      have f5:=I9.out.dbx.free 5
      have F1:Frm (· = q2) w14 ((((((w14.setCell ⟨q2,0,none⟩ (.string (sb exHd.nm))).setCell ⟨q2,1,none⟩ (.int .i64 2612)).setCell ⟨q2,2,none⟩ (.int .i64 9826)).setCell ⟨q2,3,none⟩ (.int .i64 9854)).setCell ⟨q2,4,none⟩ (.int .i64 16560000)).setCell ⟨q2,5,none⟩ (.int .i64 (-43200000))):=setAll_frm q2 [.string (sb exHd.nm),.int .i64 2612,.int .i64 9826,.int .i64 9854,.int .i64 16560000,.int .i64 (-43200000)] 0 w14
      have I10:Hid (RdI w q1 q2 gb 0 cb B body (dbI exHd (.slice none 0 0) (.slice none 0 0) (.slice none 0 0)) (a+5,false) (.slice As ns cs) L ((((((w14.setCell ⟨q2,0,none⟩ (.string (sb exHd.nm))).setCell ⟨q2,1,none⟩ (.int .i64 2612)).setCell ⟨q2,2,none⟩ (.int .i64 9826)).setCell ⟨q2,3,none⟩ (.int .i64 9854)).setCell ⟨q2,4,none⟩ (.int .i64 16560000)).setCell ⟨q2,5,none⟩ (.int .i64 (-43200000)))):=I9.out.step F1 (fun j hj=>.inl hj) (Bx.h6 I9.out.dbx (.string (sb exHd.nm)) (.int .i64 2612) (.int .i64 9826) (.int .i64 9854) (.int .i64 16560000) (.int .i64 (-43200000)))
      have C10:=Lib.hid (C9.out.keep F1 (by omega) (by have:=I9.out.o2;have:=I9.out.o3;omega))
      have X10:Hid (Bx q3 #[.int .u8 ((k:Int)+1),.int .i64 ((a:Int)+5),.int .i64 (n:Int),.int .i64 1] 129 ((((((w14.setCell ⟨q2,0,none⟩ (.string (sb exHd.nm))).setCell ⟨q2,1,none⟩ (.int .i64 2612)).setCell ⟨q2,2,none⟩ (.int .i64 9826)).setCell ⟨q2,3,none⟩ (.int .i64 9854)).setCell ⟨q2,4,none⟩ (.int .i64 16560000)).setCell ⟨q2,5,none⟩ (.int .i64 (-43200000)))):=(F1.block q3 X9.out.lt (by omega)).trans X9.out
      clear T6 I8 X8 C8 I9 X9 C9 F1 HHD HD8
      go_wp2
      go_meet
      exact⟨I10.out,C10.out,by unfold Hid;rw[if_pos HKJ.out];exact X10.out⟩
     ·have t1:(((k:Int)+1) == 1)=false:=by rw[beq_eq_false_iff_ne];omega
      have t2:(((k:Int)+1) == 2)=true:=by rw[beq_iff_eq];omega
      have HL0:=Lib.hid (HLS.out k (by omega) hlt)
      rw[HSTQ.out,HA.out] at HL0
      have HD8:=I8.out.dbx
      rw[show exD k=dbI exHd (.slice none 0 0) (.slice none 0 0) (.slice none 0 0) by rw[hkj];rfl] at HD8
      have HKJ:=Lib.hid hkj
      clear hkj
      go_wp2_with fail
      refine(imLs0_fix (a+5,false) _ C8.out HL0.out.1).mono ?_
      rintro e w9 ⟨rfl,hr⟩
      rw[HL0.out.2] at hr
      have I9:=Lib.hid (I8.out.step hr.f (fun j hj=>.inr (by subst hj;exact HB4.out)) ((hr.f.block q2 I8.out.dbx.lt (by omega)).trans HD8))
      have X9:Hid (Bx q3 #[.int .u8 ((k:Int)+1),.int .i64 ((a:Int)+5),.int .i64 (n:Int),.int .i64 1] 129 w9):=(hr.f.block q3 X8.out.lt h3n4).trans X8.out
      have C9:=Lib.hid hr.r
      have y0:=I9.out.dbx.cell 6 (u:=.slice none 0 0) rfl
      have y1:=I9.out.dbx.free 6
      have yl:=I9.out.dbx.lt
      have z0:=X9.out.cell 3 (u:=.int .i64 1) rfl
      have z1:=X9.out.free 3
      have zl:=X9.out.lt
      have F1:=frm_set w9 q2 6 (.slice none 0 0)
      have I10:Hid (RdI w q1 q2 gb 0 cb B body (dbI exHd (.slice none 0 0) (.slice none 0 0) (.slice none 0 0)) (a+5,false) (.slice As ns cs) L (w9.setCell ⟨q2,6,none⟩ (.slice none 0 0))):=I9.out.step F1 (fun j hj=>.inl hj) (Bx.d6 I9.out.dbx _)
      have C10:=Lib.hid (C9.out.keep F1 (by omega) (by have:=I9.out.o2;have:=I9.out.o3;omega))
      have X10:Hid (Bx q3 #[.int .u8 ((k:Int)+1),.int .i64 ((a:Int)+5),.int .i64 (n:Int),.int .i64 1] 129 (w9.setCell ⟨q2,6,none⟩ (.slice none 0 0))):=(F1.block q3 X9.out.lt (by omega)).trans X9.out
      have F2:=frm_set (w9.setCell ⟨q2,6,none⟩ (.slice none 0 0)) q3 3 (.int .i64 0)
      have I11:=Lib.hid (I10.out.step F2 (fun j hj=>.inr (by subst hj;exact HB3.out)) ((F2.block q2 I10.out.dbx.lt (by omega)).trans I10.out.dbx))
      have C11:=Lib.hid (C10.out.keep F2 (by omega) (by have:=I9.out.o2;have:=I9.out.o3;omega))
      have X11:=Lib.hid (Bx.s43 X10.out (.int .i64 0))
      clear hr I8 X8 C8 I9 X9 C9 I10 C10 X10 F1 F2 HD8 HL0
      go_wp2
      go_meet
      exact⟨I11.out,C11.out,by unfold Hid;rw[if_neg (by rw[HKJ.out];decide)];exact X11.out⟩
     ·have t1:(((k:Int)+1) == 1)=false:=by rw[beq_eq_false_iff_ne];omega
      have t2:(((k:Int)+1) == 2)=false:=by rw[beq_eq_false_iff_ne];omega
      have t3:(((k:Int)+1) == 3)=true:=by rw[beq_iff_eq];omega
      have HL0:=Lib.hid (HLS.out k (by omega) hlt)
      rw[HSTQ.out,HA.out] at HL0
      have HD8:=I8.out.dbx
      rw[show exD k=dbI exHd (.slice none 0 0) (.slice none 0 0) (.slice none 0 0) by rw[hkj];rfl] at HD8
      have HKJ:=Lib.hid hkj
      clear hkj
      go_wp2_with fail
      refine(imLs0_air (a+5,false) _ C8.out HL0.out.1).mono ?_
      rintro e w9 ⟨rfl,hr⟩
      rw[HL0.out.2] at hr
      have I9:=Lib.hid (I8.out.step hr.f (fun j hj=>.inr (by subst hj;exact HB4.out)) ((hr.f.block q2 I8.out.dbx.lt (by omega)).trans HD8))
      have X9:Hid (Bx q3 #[.int .u8 ((k:Int)+1),.int .i64 ((a:Int)+5),.int .i64 (n:Int),.int .i64 1] 129 w9):=(hr.f.block q3 X8.out.lt h3n4).trans X8.out
      have C9:=Lib.hid hr.r
      have y0:=I9.out.dbx.cell 7 (u:=.slice none 0 0) rfl
      have y1:=I9.out.dbx.free 7
      have yl:=I9.out.dbx.lt
      have z0:=X9.out.cell 3 (u:=.int .i64 1) rfl
      have z1:=X9.out.free 3
      have zl:=X9.out.lt
      have F1:=frm_set w9 q2 7 (.slice none 0 0)
      have I10:Hid (RdI w q1 q2 gb 0 cb B body (dbI exHd (.slice none 0 0) (.slice none 0 0) (.slice none 0 0)) (a+5,false) (.slice As ns cs) L (w9.setCell ⟨q2,7,none⟩ (.slice none 0 0))):=I9.out.step F1 (fun j hj=>.inl hj) (Bx.d7 I9.out.dbx _)
      have C10:=Lib.hid (C9.out.keep F1 (by omega) (by have:=I9.out.o2;have:=I9.out.o3;omega))
      have X10:Hid (Bx q3 #[.int .u8 ((k:Int)+1),.int .i64 ((a:Int)+5),.int .i64 (n:Int),.int .i64 1] 129 (w9.setCell ⟨q2,7,none⟩ (.slice none 0 0))):=(F1.block q3 X9.out.lt (by omega)).trans X9.out
      have F2:=frm_set (w9.setCell ⟨q2,7,none⟩ (.slice none 0 0)) q3 3 (.int .i64 0)
      have I11:=Lib.hid (I10.out.step F2 (fun j hj=>.inr (by subst hj;exact HB3.out)) ((F2.block q2 I10.out.dbx.lt (by omega)).trans I10.out.dbx))
      have C11:=Lib.hid (C10.out.keep F2 (by omega) (by have:=I9.out.o2;have:=I9.out.o3;omega))
      have X11:=Lib.hid (Bx.s43 X10.out (.int .i64 0))
      clear hr I8 X8 C8 I9 X9 C9 I10 C10 X10 F1 F2 HD8 HL0
      go_wp2
      go_meet
      exact⟨I11.out,C11.out,by unfold Hid;rw[if_neg (by rw[HKJ.out];decide)];exact X11.out⟩
     ·have t1:(((k:Int)+1) == 1)=false:=by rw[beq_eq_false_iff_ne];omega
      have t2:(((k:Int)+1) == 2)=false:=by rw[beq_eq_false_iff_ne];omega
      have t3:(((k:Int)+1) == 3)=false:=by rw[beq_eq_false_iff_ne];omega
      have HL0:=Lib.hid (HLS.out k (by omega) hlt)
      rw[HSTQ.out,HA.out] at HL0
      have HD8:=I8.out.dbx
      rw[show exD k=dbI exHd (.slice none 0 0) (.slice none 0 0) (.slice none 0 0) by rw[hkj];rfl] at HD8
      have HKJ:=Lib.hid hkj
      clear hkj
      go_wp2_with fail
      refine(imLs0_proc (a+5,false) _ C8.out HL0.out.1).mono ?_
      rintro e w9 ⟨rfl,hr⟩
      rw[HL0.out.2] at hr
      have I9:=Lib.hid (I8.out.step hr.f (fun j hj=>.inr (by subst hj;exact HB4.out)) ((hr.f.block q2 I8.out.dbx.lt (by omega)).trans HD8))
      have X9:Hid (Bx q3 #[.int .u8 ((k:Int)+1),.int .i64 ((a:Int)+5),.int .i64 (n:Int),.int .i64 1] 129 w9):=(hr.f.block q3 X8.out.lt h3n4).trans X8.out
      have C9:=Lib.hid hr.r
      have y0:=I9.out.dbx.cell 8 (u:=.slice none 0 0) rfl
      have y1:=I9.out.dbx.free 8
      have yl:=I9.out.dbx.lt
      have z0:=X9.out.cell 3 (u:=.int .i64 1) rfl
      have z1:=X9.out.free 3
      have zl:=X9.out.lt
      have F1:=frm_set w9 q2 8 (.slice none 0 0)
      have I10:Hid (RdI w q1 q2 gb 0 cb B body (dbI exHd (.slice none 0 0) (.slice none 0 0) (.slice none 0 0)) (a+5,false) (.slice As ns cs) L (w9.setCell ⟨q2,8,none⟩ (.slice none 0 0))):=I9.out.step F1 (fun j hj=>.inl hj) (Bx.d8 I9.out.dbx _)
      have C10:=Lib.hid (C9.out.keep F1 (by omega) (by have:=I9.out.o2;have:=I9.out.o3;omega))
      have X10:Hid (Bx q3 #[.int .u8 ((k:Int)+1),.int .i64 ((a:Int)+5),.int .i64 (n:Int),.int .i64 1] 129 (w9.setCell ⟨q2,8,none⟩ (.slice none 0 0))):=(F1.block q3 X9.out.lt (by omega)).trans X9.out
      have F2:=frm_set (w9.setCell ⟨q2,8,none⟩ (.slice none 0 0)) q3 3 (.int .i64 0)
      have I11:=Lib.hid (I10.out.step F2 (fun j hj=>.inr (by subst hj;exact HB3.out)) ((F2.block q2 I10.out.dbx.lt (by omega)).trans I10.out.dbx))
      have C11:=Lib.hid (C10.out.keep F2 (by omega) (by have:=I9.out.o2;have:=I9.out.o3;omega))
      have X11:=Lib.hid (Bx.s43 X10.out (.int .i64 0))
      clear hr I8 X8 C8 I9 X9 C9 I10 C10 X10 F1 F2 HD8 HL0
      go_wp2
      go_meet
      exact⟨I11.out,C11.out,by unfold Hid;rw[if_neg (by rw[HKJ.out];decide)];exact X11.out⟩
    case rest =>
     obtain⟨J8,D8,Y8⟩:=hcut
     clear I8 X8 C8
     obtain⟨cnt,hcnt⟩:∃x:Nat,(if k=0 then 1 else 0)=x:=⟨_,rfl⟩
     rw[hcnt] at Y8
     have hT7:=HT7.out
     rw[hcnt] at hT7
     have HT8:=Lib.hid hT7
     have d1:=D8.out.bx.cell 1 (u:=.int .i64 (stp:Int)) rfl
     have d2:=D8.out.bx.cell 2 (u:=.int .i64 (stp:Int)) rfl
     have d3:=D8.out.bx.cell 3 (u:=.bool false) rfl
     have e9:((stp:Int) == (stp:Int))=true:=by rw[beq_iff_eq]
     have p9:((stp:Int) != (stp:Int))=false:=by rw[bne,e9];rfl
     have hzl:stp≤body.length:=by rw[HNB.out];have:=H75.out;omega
     clear hcnt hT7
     go_wp2_with fail
     go_quiet (fail)
     have JQ:=Lib.hid (J8.out.below (below_drewN' (Below.refl _ _) nq))
     have DQ:Hid (RdP q4 gb 0 cb stp body (stp,false) (wc.drewN nq)):=D8.out.below (below_drewN' (Below.refl _ _) nq)
     have YQ:Hid (Bx q3 #[.int .u8 ((k:Int)+1),.int .i64 ((a:Int)+5),.int .i64 (n:Int),.int .i64 (cnt:Int)] 129 (wc.drewN nq)):=Y8.out
     obtain⟨wq,hwq⟩:∃W,wc.drewN nq=W:=⟨_,rfl⟩
     rw[hwq] at JQ DQ YQ ⊢
     clear hwq d1 d2 d3 J8 D8 Y8
     have d2:=DQ.out.bx.cell 2 (u:=.int .i64 (stp:Int)) rfl
     have r1:=JQ.out.rd.bx.cell 1 (u:=.int .i64 ((a+5:Nat):Int)) rfl
     have r1f:=JQ.out.rd.bx.free 1
     have rl:=JQ.out.rd.lt
     have K2:=Lib.hid (JQ.out.call (JQ.out.rd.seek hzl))
     have hq13:q3≠q1:=by have:=JQ.out.o3;omega
     have Y2:Hid (Bx q3 #[.int .u8 ((k:Int)+1),.int .i64 ((a:Int)+5),.int .i64 (n:Int),.int .i64 (cnt:Int)] 129 (wq.setCell ⟨q1,1,none⟩ (.int .i64 (stp:Int)))):=((frm_set wq q1 1 (.int .i64 (stp:Int))).block q3 YQ.out.lt hq13).trans YQ.out
     obtain⟨wz,hwz⟩:∃W,wq.setCell ⟨q1,1,none⟩ (.int .i64 (stp:Int))=W:=⟨_,rfl⟩
     rw[hwz] at K2 Y2
     have HWZ:=Lib.hid hwz
     clear hwz JQ DQ YQ
     go_upto_region 33 with fail
     rw[HWZ.out]
     clear HWZ d2 r1 r1f rl
     have s0:=Y2.out.cell 0 (u:=.int .u8 ((k:Int)+1)) rfl
     have s1:=Y2.out.cell 1 (u:=.int .i64 ((a:Int)+5)) rfl
     have s2:=Y2.out.cell 2 (u:=.int .i64 (n:Int)) rfl
     have s3:=Y2.out.cell 3 (u:=.int .i64 (cnt:Int)) rfl
     have HSC:Hid (secC (k+1,a+5,n,cnt)=[.int .u8 ((k:Int)+1),.int .i64 ((a:Int)+5),.int .i64 (n:Int),.int .i64 (cnt:Int)]):=by
      unfold Hid secC
      simp
     have hLl:L.length≤4:=by have:=HLk.out;omega
     have hBz:=K2.out.hi
     have hkk2:IntKind.u8.wrap ((k:Int)+1+1)=(k:Int)+1+1:=by rw[IntKind.wrap_u8'];omega
     have HKK2:=Lib.hid hkk2
     have hown0:=K2.out.own
     clear hkk2 hkk
     go_wp2_with (at_builtin;refine wpList_append_lies _ rfl _ _ 125 rfl B 129 i0 (.agg #[.int .u8 0,.int .i64 0,.int .i64 0,.int .i64 0]) 4 32 Tryz.underlying125 hi0 hz0 hz1 hz2 rfl (by decide) _ _ _ rfl (hown0.alloc _) ⟨wz.heap.size,0,none⟩ 1 1 [.int .u8 ((k:Int)+1),.int .i64 ((a:Int)+5),.int .i64 (n:Int),.int .i64 (cnt:Int)] rfl rfl (World.news_of_block (heap_alloc_new wz _)) ?c2 (by decide) ?c3 ?c4 ?c5 _ rfl ?_)
     case c2=>intro u hu;simp only[List.mem_cons,List.not_mem_nil,or_false] at hu;rcases hu with rfl|rfl|rfl|rfl <;> rfl
     case c3=>unfold maxLen;omega
     case c4=>omega
     case c5=>simp;omega
     intro gg cap w3 hown3 hgrow3 hor hgg
     rw[←HSC.out] at hown3
     have R:=Lib.hid (K2.out.push hown3 hgrow3)
     have hkk2:=HKK2.out
     clear hown3 hgrow3 hor hgg hown0 K2 Y2 s0 s1 s2 s3
     go_wp2
     go_roundw
     case rel=>exact⟨k+1,hlt,by first|rfl|go_num,by rw[HT8.out,HSTQ.out];exact R.out⟩
     case measure=>simp[intOf];omega
set_option maxRecDepth 100000 in
set_option maxHeartbeats 8000000 in
theorem decodeZ (v:Value) (w:World) (hT:LegT w) (h:BsV w v (sealL exB)) :
  Calls Tryz.prog 74 #[v] w fun e w'=>e=.returned (.tuple #[.agg (dbH (.slice none 0 0)),.int .i64 0])∧Below w.heap.size w w':=by
 obtain⟨w0,hw0⟩:∃W,w.alloc (.cells #[.string ⟨#[]⟩,.int .i64 0,.int .i64 0,.int .i64 0,.int .i64 0,.int .i64 0,.slice none 0 0,.slice none 0 0,.slice none 0 0] 30)=W:=⟨_,rfl⟩
 have hb0:Below w.heap.size w w0:=by rw[←hw0];exact(Below.refl _ _).alloc (Nat.le_refl _) _
 have B0:=Lib.hid hb0
 have X0:Hid (Bx w.heap.size #[.string ⟨#[]⟩,.int .i64 0,.int .i64 0,.int .i64 0,.int .i64 0,.int .i64 0,.slice none 0 0,.slice none 0 0,.slice none 0 0] 30 w0):=by rw[←hw0];exact Bx.last _ _ _
 have hrd2:Calls Tryz.prog 156 #[v] w0 fun e w'=>(∃A n c,e=.returned (.tuple #[.agg (dbH (.slice none 0 0)),.slice A n c,.int .i64 0]))∧Below w0.heap.size w0 w':=(imReadZ v w0 (h.below hb0)).mono (fun e w' hp=>by
  obtain⟨sv,he,hr,hb⟩:=hp
  obtain⟨As,cs,hs,_,_⟩:=hr.form
  exact⟨⟨_,_,_,by rw[he,hs];rfl⟩,hb⟩)
 obtain⟨q,hq⟩:∃q,w.heap.size=q:=⟨_,rfl⟩
 rw[hq] at X0
 have HQ:=Lib.hid hq
 have HW0:=Lib.hid hw0
 obtain⟨A,c,rfl,-,-,-⟩:=h
 clear hb0 hw0 hq
 go_enter Tryz.func74,Tryz.ntmps74
 go_wp2_with fail
 rw[HW0.out,HQ.out]
 clear HW0
 refine hrd2.mono ?_
 rintro e w1 ⟨⟨As,ns,cs,rfl⟩,hb⟩
 have B1:=Lib.hid (Below.then_ B0.out hb)
 have X1:=Lib.hid (Bx.via hb X0.out)
 clear hrd2 hb B0 X0
 obtain⟨w2,hw2⟩:∃W,w1.alloc (.cells (dbH (.slice none 0 0)) 30)=W:=⟨_,rfl⟩
 have hb2:Below w1.heap.size w1 w2:=by rw[←hw2];exact(Below.refl _ _).alloc (Nat.le_refl _) _
 obtain⟨q2,hq2⟩:∃q,w1.heap.size=q:=⟨_,rfl⟩
 have D2:Hid (Bx q2 (dbH (.slice none 0 0)) 30 w2):=by rw[←hw2,←hq2];exact Bx.last _ _ _
 have B2:=Lib.hid (Below.then_ B1.out hb2)
 have X2:=Lib.hid (Bx.via hb2 X1.out)
 have hck:=checkZ w2 (hT.below B2.out)
 have HCK:=Lib.hid hck
 unfold dbH at hw2 HCK ⊢
 have HW2:=Lib.hid hw2
 have HQ2:=Lib.hid hq2
 clear hck hw2 hq2 hb2 B1 X1
 go_upto_region 2 with fail
 rw[HW2.out,HQ2.out]
 clear HW2 HQ2
 obtain⟨⟨x0,x1,x2,x3,x4,x5,x6,x7,x8⟩,_⟩:=Bx.cells9 D2.out
 have xl:=Bx.lt D2.out
 go_wp2_with fail
 refine HCK.out.mono ?_
 rintro e w3 ⟨rfl,hb3⟩
 have D3:=Lib.hid (D2.out.via hb3)
 have B3:=Lib.hid (Below.then_ B2.out hb3)
 have XO:=Lib.hid (X2.out.via hb3)
 clear HCK x0 x1 x2 x3 x4 x5 x6 x7 x8 xl D2 B2 X2 hb3
 have HCS:Hid (∀j u,(dbH (.slice none 0 0)).toList[j]? = some u→w3.cell? ⟨q2,0+j,none⟩=some u):=fun j u hu=>by rw[Nat.zero_add];exact D3.out.cell j (by simpa using hu)
 have FX:Bx q (dbH (.slice none 0 0)) 30 (w3.setRow q (dbH (.slice none 0 0))):=setRow_heap _ q _ (dbH (.slice none 0 0)) 30 (0,0) XO.out
 have HPF:Below w.heap.size w (w3.setRow q (dbH (.slice none 0 0))):=row_below B3.out HQ.out
 obtain⟨W9,hW9⟩:∃W,w3.setRow q (dbH (.slice none 0 0))=W:=⟨_,rfl⟩
 rw[hW9] at FX HPF
 have HW9:=Lib.hid hW9
 have HPG:=Lib.hid HPF
 have FXH:=Lib.hid FX
 clear FX HPF hW9
 go_wp2_with (first|(with_reducible refine wpList_load_wide rfl 30 (.tmp 4) rfl q2 0 rfl (dbH (.slice none 0 0)).toList 9 rfl (aggDB9 _) (sizeDB9 _) HCS.out ?_)|(refine wpList_plain rfl fun _ hK=>wp_store_row 30 (.tmp 2) (.tmp 24) rfl q (dbH (.slice none 0 0)) rfl rfl 30 _ XO.out infoDB9 rfl (by simp[dbH,Value.oneCell']) (hK _ _ ?_)))
 rw[HW9.out]
 obtain⟨⟨x0,x1,x2,x3,x4,x5,x6,x7,x8⟩,_⟩:=Bx.cells9 FXH.out
 refine bodyPost_ret (v:=.tuple #[.agg (dbH (.slice none 0 0)),.int .i64 0]) (by simp[results,Tryz.results74,go_sem,dbH,x0,x1,x2,x3,x4,x5,x6,x7,x8];try rfl) rfl ?_
 exact⟨rfl,HPG.out⟩
end Go.Proofs.YtgmehlgfilpleaaGreatDoor
namespace Go.Proofs.YtgmehlgfilpleaaGreatDoor
open Go.RowKit Go.Lib Go.Sort
set_option linter.unusedVariables false
set_option linter.unusedSimpArgs false
theorem ImRZ.form {w w':World} {e:Ending} (h:ImRZ w e w'):FormPost (sealL exB) w e w':=by
 obtain⟨sv,he,hr,hb⟩:=h
 unfold FormPost
 rw[ex_rd]
 exact⟨_,_,_,sv,he,hr,⟨_,_,_,rfl⟩,⟨_,_,_,rfl⟩,⟨_,_,_,rfl⟩,hb⟩
set_option maxRecDepth 100000 in
set_option maxHeartbeats 8000000 in
theorem same_ex (A1 A2:Option Addr) (c1 c2:Nat) (w:World) :
  Calls Tryz.prog 38 #[.agg (dbH (.slice A1 0 c1)),.agg (dbH (.slice A2 0 c2))] w fun e w'=>e=.returned (.bool true)∧Below w.heap.size w w':=by
 obtain⟨w1,hw1⟩:∃W,(w.alloc (.cells (dbH (.slice A1 0 c1)) 30)).alloc (.cells (dbH (.slice A2 0 c2)) 30)=W:=⟨_,rfl⟩
 have hb1:Below w.heap.size w w1:=by rw[←hw1];exact((Below.refl _ _).alloc (Nat.le_refl _) _).alloc (by simp) _
 obtain⟨q,hq⟩:∃q,w.heap.size=q:=⟨_,rfl⟩
 have Y1:Bx (q+1) (dbH (.slice A2 0 c2)) 30 w1:=by
  have h1:=Bx.last (w.alloc (.cells (dbH (.slice A1 0 c1)) 30)) (dbH (.slice A2 0 c2)) 30
  rw[hw1,World.size_alloc,hq] at h1
  exact h1
 have X1:Bx q (dbH (.slice A1 0 c1)) 30 w1:=by
  have h1:=Bx.via ((Below.refl _ _).alloc (Nat.le_refl _) (.cells (dbH (.slice A2 0 c2)) 30)) (Bx.last w (dbH (.slice A1 0 c1)) 30)
  rw[hw1,hq] at h1
  exact h1
 have HB1:=Lib.hid hb1
 unfold dbH at hw1 ⊢
 have HW1:=Lib.hid hw1
 have HQ:=Lib.hid hq
 have xl:=X1.lt
 have yl:=Y1.lt
 obtain⟨⟨x0,x1,x2,x3,x4,x5,x6,x7,x8⟩,_⟩:=Bx.cells9 X1
 obtain⟨⟨y0,y1,y2,y3,y4,y5,y6,y7,y8⟩,_⟩:=Bx.cells9 Y1
 clear hb1 hw1 hq X1 Y1
 go_enter Tryz.func38,Tryz.ntmps38
 go_upto_region 1 with fail
 rw[HW1.out,HQ.out]
 clear HW1 HQ
 go_wp2
 go_loopw [43] (fun iv wr=>iv=.int .i64 0∧wr=w1) (fun _ _=>0)
 case atStart=>exact⟨rfl,rfl⟩
 case round =>
 obtain⟨rfl,rfl⟩:=hrel
 go_wp2
 go_loopw [61] (fun iv wx=>iv=.int .i64 0∧wx=wr) (fun _ _=>0)
 case atStart=>exact⟨rfl,rfl⟩
 case round =>
 obtain⟨rfl,rfl⟩:=hrel
 go_wp2
 go_loopw [80] (fun iv wx=>iv=.int .i64 0∧wx=wr) (fun _ _=>0)
 case atStart=>exact⟨rfl,rfl⟩
 case round =>
 obtain⟨rfl,rfl⟩:=hrel
 go_wp2
 go_ret
 exact⟨rfl,HB1.out⟩
set_option maxRecDepth 100000 in
set_option maxHeartbeats 16000000 in
theorem awake19_any (w:World) (E:Env w) (hT:LegT w) :
  Calls Tryz.prog 19 #[] w fun e w'=>e=.returned (.bool true)∧Below w.heap.size w w':=by
 have hl79:(sealL exB).length=79:=by unfold sealL;rw[List.length_append,exB_len];rfl
 have hc1:=compile_hdr w E
 unfold exS dbH at hc1
 dsimp only at hc1
 go_enter Tryz.func19,Tryz.ntmps19
 go_wp2_with fail
 refine hc1.mono ?_
 rintro e w1 ⟨rfl,hb1⟩
 clear hc1
 obtain⟨w2,hw2⟩:∃W,w1.alloc (.cells (dbH (.slice none 0 0)) 30)=W:=⟨_,rfl⟩
 have hb2:Below w1.heap.size w1 w2:=by rw[←hw2];exact(Below.refl _ _).alloc (Nat.le_refl _) _
 have B2:=Lib.hid (Below.then_ hb1 hb2)
 obtain⟨q,hq⟩:∃q,w1.heap.size=q:=⟨_,rfl⟩
 have X2:Hid (Bx q (dbH (.slice none 0 0)) 30 w2):=by rw[←hw2,←hq];exact Bx.last w1 _ _
 have hen:=encodeZ w2 (hT.below B2.out)
 have HT:=Lib.hid hT
 unfold dbH at hw2 hen
 have HEN:=Lib.hid hen
 have HW2:=Lib.hid hw2
 have HQ:=Lib.hid hq
 obtain⟨⟨x0,x1,x2,x3,x4,x5,x6,x7,x8⟩,_⟩:=Bx.cells9 X2.out
 have xl:=Bx.lt X2.out
 have HL:=Lib.hid hl79
 clear hb1 hb2 hw2 hq hen hl79 hT
 go_upto_region 2 with fail
 rw[HW2.out,HQ.out]
 clear HW2 HQ
 go_wp2_with fail
 refine HEN.out.mono ?_
 rintro e w3 ⟨vp,rfl,gb,cc,rfl,hcc,hcm,-,hba,hb3⟩
 have B3:=Lib.hid (Below.then_ B2.out hb3)
 have X3:=Lib.hid (X2.out.via hb3)
 have V3:BsV w3 (.slice (some ⟨gb,0,none⟩) (sealL exB).length cc) (sealL exB):=⟨_,cc,rfl,hcc,hcm,fun _=>⟨gb,0,rfl,hba⟩⟩
 have hde:=decodeZ _ w3 (HT.out.below B3.out) V3
 unfold dbH at hde
 have HDE:=Lib.hid hde
 have HBA:=Lib.hid hba
 have HCM:=Lib.hid hcm
 rw[HL.out] at hcc HDE ⊢
 clear x0 x1 x2 x3 x4 x5 x6 x7 x8 xl hb3 B2 X2 HEN V3 hde hba hcm
 go_wp2_with fail
 refine HDE.out.mono ?_
 rintro e w4 ⟨rfl,hb4⟩
 have B4:=Lib.hid (Below.then_ B3.out hb4)
 have X4:=Lib.hid (X3.out.via hb4)
 have BA4:=Lib.hid (HBA.out.below hb4)
 obtain⟨w5,hw5⟩:∃W,w4.alloc (.cells (dbH (.slice none 0 0)) 30)=W:=⟨_,rfl⟩
 have hb5:Below w4.heap.size w4 w5:=by rw[←hw5];exact(Below.refl _ _).alloc (Nat.le_refl _) _
 obtain⟨q5,hq5⟩:∃q,w4.heap.size=q:=⟨_,rfl⟩
 have Y5:Hid (Bx q5 (dbH (.slice none 0 0)) 30 w5):=by rw[←hw5,←hq5];exact Bx.last w4 _ _
 have B5:=Lib.hid (Below.then_ B4.out hb5)
 have X5:=Lib.hid (X4.out.via hb5)
 have BA5:=Lib.hid (BA4.out.below hb5)
 have V5:BsV w5 (.slice (some ⟨gb,0,none⟩) (sealL exB).length cc) (sealL exB):=⟨_,cc,rfl,by rw[HL.out];exact hcc,HCM.out,fun _=>⟨gb,0,rfl,BA5.out⟩⟩
 have hse:=imSections_any _ (sealL exB) w5 ((imReadZ _ w5 V5).mono fun e w' h=>h.form)
 rw[ex_rd,HL.out] at hse
 have HSE:=Lib.hid hse
 unfold dbH at hw5
 have HW5:=Lib.hid hw5
 have HQ5:=Lib.hid hq5
 clear hb4 hb5 HDE B3 X3 HBA B4 X4 BA4 hw5 hq5 V5 hse
 go_upto_region 4 with fail
 rw[HW5.out,HQ5.out]
 clear HW5 HQ5
 go_wp2_with fail
 refine HSE.out.mono ?_
 rintro e w6 ⟨sv,rfl,hrd,hb6⟩
 have B6:=Lib.hid (Below.then_ B5.out hb6)
 have X6:=Lib.hid (X5.out.via hb6)
 have Y6:=Lib.hid (Y5.out.via hb6)
 have BA6:=BA5.out.below hb6
 have hcv:=bsv_string (w:=w6) (v:=.slice (some ⟨gb,0,none⟩) 9 cc) (l:=(sealL exB).take 9) ⟨_,cc,by rw[List.length_take,HL.out];rfl,by rw[List.length_take,HL.out];omega,HCM.out,fun _=>⟨gb,0,rfl,BA6.take 9⟩⟩
 rw[ex_head] at hcv
 have e1:((sb [70,68,66,49,1,45,0,0,0]).toList == [70,68,66,49,1,45,0,0,0])=true:=by rw[bl_toList,bl_sb];rfl
 obtain⟨-,As,cs,hsv,-,-,hsx⟩:=hrd
 obtain⟨gs,os,rfl,hgs,hcell⟩:=hsx (by decide)
 have d0:=hcell 12 (.int .u8 4) rfl
 have d1:=hcell 13 (.int .i64 73) rfl
 have d2:=hcell 14 (.int .i64 2) rfl
 have d3:=hcell 15 (.int .i64 0) rfl
 subst hsv
 obtain⟨⟨x0,x1,x2,x3,x4,x5,x6,x7,x8⟩,_⟩:=Bx.cells9 X6.out
 have xl:=Bx.lt X6.out
 obtain⟨⟨y0,y1,y2,y3,y4,y5,y6,y7,y8⟩,_⟩:=Bx.cells9 Y6.out
 have yl:=Bx.lt Y6.out
 have hsm:=same_ex none none 0 0 w6
 unfold dbH at hsm
 have HSM:=Lib.hid hsm
 have hc9:(9:Int)≤(cc:Int):=by omega
 have hgb:=BA6.1
 clear hb6 B5 X5 Y5 BA5 HSE hcell hsx hsm BA6
 have D0:=Lib.hid d0
 have D1:=Lib.hid d1
 have D2:=Lib.hid d2
 have D3:=Lib.hid d3
 have hgs2:=Lib.hid hgs
 clear d0 d1 d2 d3
 go_wp2_with fail
 refine HSM.out.mono ?_
 rintro e w7 ⟨rfl,hb7⟩
 have B7:=Lib.hid (Below.then_ B6.out hb7)
 have d0:=(hb7.cell (p:=⟨gs,os+12,none⟩) hgs2.out).trans D0.out
 have d1:=(hb7.cell (p:=⟨gs,os+13,none⟩) hgs2.out).trans D1.out
 have d2:=(hb7.cell (p:=⟨gs,os+14,none⟩) hgs2.out).trans D2.out
 have d3:=(hb7.cell (p:=⟨gs,os+15,none⟩) hgs2.out).trans D3.out
 have hg7:gs<w7.heap.size:=Nat.lt_of_lt_of_le hgs2.out hb7.size
 clear HSM hb7 x0 x1 x2 x3 x4 x5 x6 x7 x8 xl y0 y1 y2 y3 y4 y5 y6 y7 y8 yl hcv e1
 go_wp2
 go_ret
 exact⟨rfl,B7.out⟩
end Go.Proofs.YtgmehlgfilpleaaGreatDoor
