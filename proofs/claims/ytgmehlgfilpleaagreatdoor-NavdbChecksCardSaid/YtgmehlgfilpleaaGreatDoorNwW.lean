/-
  Contract: the third round of the compiler, at the header of the examples, where no element is a fix.
-/
import Derived.Test.YtgmehlgfilpleaaGreatDoorMG23
import Derived.Test.YtgmehlgfilpleaaGreatDoorNvJ
namespace Go.Proofs.YtgmehlgfilpleaaGreatDoor
open Go.RowKit
set_option linter.unusedVariables false
set_option linter.unusedSimpArgs false
structure ElOk (p:El):Prop where
 kd:p.kd=97
 pv:p.pts.length≤p.vias.length
 vf:∀v∈p.vias,0<v.2.length
 vl:p.vias.length≤1000
theorem rfs_0:(bM (rfsB []):List UInt8→Option Bool)=fun _=>none:=by funext s;rfl
theorem apt_0:(bM (aptB []):List UInt8→Option Bool)=fun _=>none:=by funext s;rfl
theorem rws_0:(bM (rwsB []):List UInt8→Option Bool)=fun _=>none:=by funext s;rfl
theorem indexed_0 (w:World):Calls Tryz.prog 41 #[.slice none 0 0] w fun e w'=>∃b1 b2 b3,e=.returned (ixV b1 b2 b3)∧IxR b1 b2 b3 0 (rfM []) (fun _=>none) (fun _=>none) w'∧Below w.heap.size w w'∧w.heap.size≤b1∧w.heap.size≤b2∧w.heap.size≤b3:=by
 have h:=indexedG_any (.slice none 0 0) [] w (Rd.nil w 7) (fun f h=>by cases h) (fun f h=>by cases h) (by decide)
 unfold IxL at h
 rw[rfs_0,apt_0,rws_0] at h
 rw[rfM_nil]
 exact h
theorem header_26 (w:World):Calls Tryz.prog 40 #[.agg #[.string ⟨#[87,69,83,84]⟩,.int .i64 2612,.int .i64 9826,.int .i64 9854,.int .i64 16560000,.int .i64 (-43200000)]] w fun e w'=>e=.returned (.int .i64 0)∧Below w.heap.size w w':=by
 have h:=header_any ⟨[87,69,83,84],2612,9826,9854,16560000,-43200000⟩ w (by decide)
 rw[show hdrE ⟨[87,69,83,84],2612,9826,9854,16560000,-43200000⟩=0 by decide +kernel] at h
 exact h
theorem fixesOf_none {l:List El} (h:∀p∈l,p.kd=97):fixesOf l=[]:=by
 unfold fixesOf
 rw[List.map_eq_nil_iff,List.filter_eq_nil_iff]
 intro p hp
 rw[decide_eq_true_iff,h p hp]
 decide
def HdOk (s:Cp):Prop:=s.nm=[87,69,83,84]∧s.cy=2612∧s.fr=9826∧s.tu=9854∧s.la=16560000∧s.lo = -43200000
set_option maxRecDepth 100000 in
set_option maxHeartbeats 16000000 in
theorem third_any (w0:World) (lv:Value) (rest:List Ln) (s:Cp) (av:Value) (L:List (El × EV)) (w:World) (E:Env w0) (hl:LnsR w0 lv ((1,hdF)::rest)) (h:CpR w0 w.heap.size lv s (.slice none 0 0) av L w) (hhd:HdOk s) (hbad:s.bad=[]) (hok:∀p∈s.all,ElOk p) (hN:s.all.length≤1000) :
  Calls Tryz.prog 114 #[.pointer (some ⟨w0.heap.size,0,none⟩)] w
   fun e w'=>e=.returned (.tuple #[])∧∃bv,CpR w0 w.heap.size lv (thGo (fixesOf s.all) 0 0 [] [] s s.all) bv av L w'∧Frm (SB w0 w.heap.size) w w':=by
 obtain⟨F,hF⟩:∃F,thGo (fixesOf s.all) 0 0 [] [] s s.all=F:=⟨_,rfl⟩
 obtain⟨all,hall,hall0⟩:∃l,fixesOf s.all=l∧l=[]:=⟨_,rfl,fixesOf_none fun p hp=>(hok p hp).kd⟩
 have HALL0:=Lib.hid hall0
 obtain⟨El0,hel⟩:∃l,s.all=l:=⟨_,rfl⟩
 obtain⟨A,c,rfl,hc,hm⟩:=hl.form
 obtain⟨gl,ol,cl,fv,hA,hgl,y0,y1,hfs,_⟩:=hl.at_ (k:=0) (by simp)
 simp only[Value.slice.injEq,true_and] at hA
 obtain⟨rfl,rfl⟩:=hA
 simp only[List.getElem_cons_zero,Nat.zero_mul,Nat.add_zero] at y0 y1 hfs
 obtain⟨n,hn⟩:∃n,((1,hdF)::rest).length=n:=⟨_,rfl⟩
 have hn0:0<n:=by rw[←hn];simp
 have hni:(0:Int)<(n:Int):=by omega
 obtain⟨e1,e2,e3,e4,e5,e6⟩:=hhd
 have HHD:Hid (HdOk s):=⟨e1,e2,e3,e4,e5,e6⟩
 rw[hn] at h hc hl
 rw[hn]
 have H:=Lib.hid h
 have hwl:=h.lt
 have z0:=fun pb:BelBy w=>((h.below pb.h).be.cell (p:=⟨gl,ol,none⟩) hgl).trans y0
 have z1:=fun pb:BelBy w=>((h.below pb.h).be.cell (p:=⟨gl,ol+1,none⟩) hgl).trans y1
 have u0:=fun pb:BelBy w=>(h.below pb.h).bx.cell 0 (u:=.slice (some ⟨gl,ol,none⟩) n c) rfl
 have u2:=fun pb:BelBy w=>(h.below pb.h).bx.cell 2 (u:=.string ⟨#[87,69,83,84]⟩) (by unfold cpC;rw[e1];rfl)
 have u3:=fun pb:BelBy w=>(h.below pb.h).bx.cell 3 (u:=.int .i64 2612) (by unfold cpC;rw[e2];rfl)
 have u4:=fun pb:BelBy w=>(h.below pb.h).bx.cell 4 (u:=.int .i64 9826) (by unfold cpC;rw[e3];rfl)
 have u5:=fun pb:BelBy w=>(h.below pb.h).bx.cell 5 (u:=.int .i64 9854) (by unfold cpC;rw[e4];rfl)
 have u6:=fun pb:BelBy w=>(h.below pb.h).bx.cell 6 (u:=.int .i64 16560000) (by unfold cpC;rw[e5];rfl)
 have u7:=fun pb:BelBy w=>(h.below pb.h).bx.cell 7 (u:=.int .i64 (-43200000)) (by unfold cpC;rw[e6];rfl)
 have hh:=header_26
 have HL:=Lib.hid hl
 have HFS:=Lib.hid hfs
 have HOK:=Lib.hid hok
 have HEL:=Lib.hid hel
 have HALL:=Lib.hid hall
 have HF:=Lib.hid hF
 have HBAD:=Lib.hid hbad
 obtain⟨Af,cf,rfl,hcf,_⟩:=fld_le hfs
 have hx4:hdF.length=4:=rfl
 rw[hx4] at z1 hcf HFS
 obtain⟨m,hm2⟩:∃m,s.all.length=m:=⟨_,rfl⟩
 have HM:=Lib.hid hm2
 rw[hm2] at hN
 rw[hF]
 unfold maxLen at hm
 clear e1 e2 e3 e4 e5 e6 h hl hfs hok hel hall hall0 hF hbad hn y0 y1 hm2 hx4
 go_enter Tryz.func114,Tryz.ntmps114
 go_wp2_with fail
 refine wp_region_bel_tail 12 (by kernel_rfl) (by kernel_rfl) ?_
 simp only[List.take_succ_cons,List.take_zero,List.drop_succ_cons,List.drop_zero]
 repeat(quiet_step ((go_at_call 40;with_reducible exact Calls.bel_of (hh _))))
 try refine wpQuiet_nil ?_
 rintro wz ⟨pb,rfl⟩
 obtain⟨wa,hba⟩:=pb
 show wpList _ _ _ _ _ wa
 have HA:=Lib.hid (H.out.below hba)
 have BA:=Lib.hid hba
 have hfa:=fail_any w0 w.heap.size _ s _ av L (1,hdF) _ 0 wa HA.out HFS.out (by decide) (by rw[HBAD.out];decide)
 clear z0 z1 u0 u2 u3 u4 u5 u6 u7 hh hba
 go_wp2_with fail
 refine hfa.mono ?_
 rintro e w1 ⟨rfl,bv1,hc1,hf1,hbv⟩
 have hbv1:=hbv trivial
 subst hbv1
 have HS0:Hid (s.fail (1,hdF) 0=s):=by unfold Hid Cp.fail;rw[if_pos rfl]
 rw[HS0.out] at hc1
 have C1:=Lib.hid hc1
 have F1:Hid (Frm (SB w0 w.heap.size) w w1):=(Frm.of_below BA.out).trans (SB.of_bad HA.out hf1)
 have hsz1:w.heap.size≤w1.heap.size:=F1.out.size
 have hwl1:=hc1.lt
 have HAV:=Lib.hid hc1.all
 obtain⟨-,Aa,ca,rfl,hca,hcam,-⟩:=hc1.all.1
 unfold maxLen at hcam
 rw[HM.out] at hca
 have k8:=C1.out.bx.cell 8 (u:=.slice Aa s.all.length ca) rfl
 rw[HM.out] at k8
 clear hc1 hf1 hbv HA BA hfa HS0
 go_wp2_with fail
 go_loopw [2,35] (fun lv2 iv wr=>∃(k:Nat),k≤m∧iv=.int .i64 (k:Int)∧lv2=.slice none 0 0∧Hid (Below w1.heap.size w1 wr)) (fun _ iv _=>m-(intOf iv).toNat)
 case atStart=>exact⟨0,Nat.zero_le _,rfl,rfl,Below.refl _ _⟩
 case round =>
  obtain⟨k,hk,rfl,rfl,hbr⟩:=hrel
  have CR:=Lib.hid (C1.out.below hbr.out)
  by_cases hlt:k<m
  ·have hkl:k<s.all.length:=by rw[HM.out];exact hlt
   obtain⟨ge,oe,ce,p,hA,hge,hpL,hpe,hat⟩:=CR.out.at_ hkl
   simp only[Value.slice.injEq,true_and] at hA
   obtain⟨rfl,rfl⟩:=hA
   have hkd:=(HOK.out _ (List.getElem_mem hkl)).kd
   rw[←hpe] at hkd
   have hki:(k:Int)<(m:Int):=by omega
   have hev:=(CR.out.el p hpL).vals
   have HCS:=Lib.hid hat.all
   have HON:=Lib.hid (elc_one hev)
   have hgew:ge<wr.heap.size:=hge
   clear hpe hpL hat hev
   go_upto_region 5 with (first|(with_reducible refine wpList_load_wide rfl 187 (.tmp 37) rfl ge (oe+k*19) rfl (elc p) 19 rfl (aggEl _) (sizeEl _) HCS.out ?_)|(refine wpList_store_last wr _ rfl 187 (.tmp 4) (.tmp 38) rfl rfl (elc p) rfl infoElS rfl HON.out ?_))
   obtain⟨wA,hwA⟩:∃W,wr.alloc (.cells (elc p).toArray 187)=W:=⟨_,rfl⟩
   rw[hwA]
   have XA:ElBox wA wr.heap.size p:=by rw[←hwA];exact Bx.last wr _ _
   have BA:Hid (Below wr.heap.size wr wA):=by rw[←hwA];exact(Below.refl _ _).alloc (Nat.le_refl _) _
   have c0:=Bx.cell XA 0 (u:=.int .u8 (p.1.kd:Int)) rfl
   have xl:=Bx.lt XA
   have HWA:=Lib.hid hwA
   rw[hkd] at c0
   replace c0:wA.cell? ⟨wr.heap.size,0,none⟩=some (.int .u8 97):=c0
   clear hwA XA hkd HCS HON
   go_wp2
   go_roundw
   case rel=>exact⟨k+1,hlt,by go_num,rfl,Below.then_ hbr.out BA.out⟩
   case measure=>simp[intOf];omega
  ·have hkm:k=m:=by omega
   have HSZ:Hid (∀p∈s.all,p.fx.id.length≤1000000000000000∧p.fx.rg.length≤1000000000000000):=by
    intro p hp
    rw[←C1.out.eq,List.mem_map] at hp
    obtain⟨q,hq,rfl⟩:=hp
    exact(C1.out.el q hq).xz
   have hmm:=@run_makeMap Tryz.prog
   have HB2:=Lib.hid (Below.then_ (Below.refl w1.heap.size w1) hbr.out)
   clear hkm
   go_wp2_with fail
   refine(indexed_0 wr).mono ?_
   rintro e w2 ⟨b1,b2,b3,rfl,hix,hb2,q1,q2,q3⟩
   have HIX:=Lib.hid hix
   have HB3:=Lib.hid (Below.then_ hbr.out hb2)
   have C2:=Lib.hid (CR.out.below hb2)
   have hw2:=hb2.size
   clear hix hb2
   go_wp2_with fail
   refine(indexed_0 w2).mono ?_
   rintro e w3 ⟨c1,c2,c3,rfl,hjx,hb3,r1,r2,r3⟩
   have HJX:=Lib.hid hjx
   have hw3:=hb3.size
   have HIX3:=Lib.hid (HIX.out.below hb3)
   have C3:=Lib.hid (C2.out.below hb3)
   have HB4:=Lib.hid (Below.then_ HB3.out hb3)
   have hbl1:=HIX.out.r.lt
   have hbl2:=HIX.out.a.lt
   have hbl3:=HIX.out.u.lt
   have hcl1:=HJX.out.r.lt
   have hcl2:=HJX.out.a.lt
   have hcl3:=HJX.out.u.lt
   unfold ixV
   clear hjx hb3 HIX
   go_upto_region 10 with fail
   obtain⟨w4,hw4⟩:∃W,((w3.alloc (.cells #[.map (some b1),.map (some b2),.map (some b3)] 93)).alloc (.cells #[.map (some c1),.map (some c2),.map (some c3)] 93)).alloc (.map #[] 0)=W:=⟨_,rfl⟩
   rw[hw4]
   have TH0:Hid (Th w0 w.heap.size (.slice (some ⟨gl,ol,none⟩) n c) (.slice Aa s.all.length ca) L w all w3.heap.size (w3.heap.size+1) b1 b2 b3 c1 c2 c3 (w3.heap.size+1+1) s (.slice none 0 0) [] [] w4):=by
    have hb:Below w3.heap.size w3 w4:=by rw[←hw4];exact(((Below.refl _ _).alloc (Nat.le_refl _) _).alloc (by simp) _).alloc (by simp;omega) _
    refine⟨C3.out.below hb,by rw[HALL0.out];exact HIX3.out.below hb,?_,?_,?_,?_,((F1.out.trans (Frm.of_below (HB4.out))).trans (Frm.of_below hb))⟩
    ·have:=HJX.out.below hb
     exact this
    ·have h1:=MapF.made elmB ((w3.alloc (.cells #[.map (some b1),.map (some b2),.map (some b3)] 93)).alloc (.cells #[.map (some c1),.map (some c2),.map (some c3)] 93))
     rw[World.size_alloc,World.size_alloc,hw4] at h1
     rw[nsM_nil];exact h1
    ·rw[←hw4];exact((Bx.last w3 _ _).grow _).grow _
    ·rw[←hw4];exact(Bx.last2 w3 _ _ _).grow _
   have hwr1:=hbr.out.size
   have hsz2:w.heap.size≤w1.heap.size:=F1.out.size
   have AP:Hid (Apart w.heap.size b1 b2 b3 c1 c2 c3 (w3.heap.size+1+1)):=⟨by omega,by omega,by omega,by omega,by omega,by omega,by omega,by omega,by omega,by omega,by omega,by omega⟩
   obtain⟨q5,hq5⟩:∃q,w3.heap.size=q:=⟨_,rfl⟩
   obtain⟨q6,hq6⟩:∃q,w3.heap.size+1=q:=⟨_,rfl⟩
   obtain⟨nb,hnb⟩:∃q,w3.heap.size+1+1=q:=⟨_,rfl⟩
   rw[hnb,hq6,hq5] at TH0
   rw[hnb] at AP
   rw[hnb,hq6,hq5]
   clear hw4 hq5 hq6 hnb hw2 hw3 q1 q2 q3 r1 r2 r3 hbl1 hbl2 hbl3 hcl1 hcl2 hcl3 HJX HIX3 C3 C2 HB3 HB4 HB2 hmm CR k8
   have k8:=TH0.out.cp.bx.cell 8 (u:=.slice Aa s.all.length ca) rfl
   rw[HM.out] at k8
   go_wp2_with fail
   go_loopw [8,9,57] (fun nfv nav iv wr=>∃(k:Nat) (bf:List Fx) (ns:List (List UInt8)) (sc:Cp) (bv:Value),k≤m∧iv=.int .i64 (k:Int)∧nfv=.int .i64 (bf.length:Int)∧nav=.int .i64 (ns.length:Int)∧bf.length≤k∧ns.length≤k∧Hid (thGo all bf.length ns.length bf ns sc (s.all.drop k)=F)∧Hid (sc.all=s.all∧sc.la=s.la∧sc.lo=s.lo∧sc.bad.length≤k*2000)∧Hid (Th w0 w.heap.size (.slice (some ⟨gl,ol,none⟩) n c) (.slice Aa s.all.length ca) L w all q5 q6 b1 b2 b3 c1 c2 c3 nb sc bv bf ns wr)) (fun _ _ iv _=>m-(intOf iv).toNat)
   case atStart=>exact⟨0,[],[],s,_,Nat.zero_le _,rfl,by first|rfl|go_num,by first|rfl|go_num,Nat.le_refl _,Nat.le_refl _,by unfold Hid;rw[←HF.out,HALL.out];rfl,⟨rfl,rfl,rfl,by rw[HBAD.out];exact Nat.zero_le _⟩,TH0.out⟩
   case round =>
    obtain⟨k,bf,ns,sc,bv,hk,rfl,rfl,rfl,hbf,hns,hgo,hsc,hth⟩:=hrel
    by_cases hlt:k<m
    ·have hkl:k<s.all.length:=by rw[HM.out];exact hlt
     have hal:=hsc.out.1
     obtain⟨ge,oe,ce,p,hA,hge,hpL,hpe,hat⟩:=hth.out.cp.at_ (k:=k) (by rw[hal];exact hkl)
     rw[hal] at hA
     simp only[Value.slice.injEq,true_and] at hA
     obtain⟨rfl,rfl⟩:=hA
     have hpe2:p.1=s.all[k]:=by rw[hpe];congr 1
     have hst:=thGo_at all bf.length ns.length bf ns sc hkl
     have hok:=HOK.out _ (List.getElem_mem hkl)
     rw[←hpe2] at hst hok
     have hki:(k:Int)<(m:Int):=by omega
     have hin:=hth.out.cp.el p hpL
     have HPL:=Lib.hid hpL
     have HCS:=Lib.hid hat.all
     have HON:=Lib.hid (elc_one hin.vals)
     have HST:=Lib.hid (hgo.out.symm.trans hst)
     have hgew:ge<wr.heap.size:=hge
     have HIN:=Lib.hid hin
     have HPO:=Lib.hid hok
     have hsz:=HSZ.out p.1 (by rw[hpe2];exact List.getElem_mem hkl)
     obtain⟨⟨Af2,cf2,hfv,hcf2,hcf3⟩,⟨Ap2,cp2,hpv,hcp2,hcp3⟩,⟨Av2,cv2,hvv,hcv2,hcv3⟩⟩:=hin.vals
     clear hst hpe hpe2 hpL hat hok hgo hin hal
     go_upto_region 14 with (first|(with_reducible refine wpList_load_wide rfl 187 (.tmp 59) rfl ge (oe+k*19) rfl (elc p) 19 rfl (aggEl _) (sizeEl _) HCS.out ?_)|(refine wpList_store_last wr _ rfl 187 (.tmp 12) (.tmp 60) rfl rfl (elc p) rfl infoElS rfl HON.out ?_))
     obtain⟨wA,hwA⟩:∃W,wr.alloc (.cells (elc p).toArray 187)=W:=⟨_,rfl⟩
     rw[hwA]
     obtain⟨q12,hq12⟩:∃q,wr.heap.size=q:=⟨_,rfl⟩
     have XA:Hid (ElBox wA q12 p):=by rw[←hwA,←hq12];exact Bx.last wr _ _
     have BA:Hid (Below wr.heap.size wr wA):=by rw[←hwA];exact(Below.refl _ _).alloc (Nat.le_refl _) _
     have TA:=Lib.hid (hth.out.below BA.out)
     have IA:=Lib.hid (HIN.out.below BA.out)
     rw[hq12]
     clear hwA HCS HON hth HIN BA hq12 hgew hge
     have c0:=Bx.cell XA.out 0 (u:=.int .u8 (p.1.kd:Int)) rfl
     have hkd:=HPO.out.kd
     have hkd2:p.1.kd≠102:=by omega
     obtain⟨nm,hnm⟩:∃n,p.1.nm=n:=⟨_,rfl⟩
     obtain⟨x,hx⟩:∃x,p.1.x=x:=⟨_,rfl⟩
     obtain⟨er,her⟩:∃e,thA (ns.length+1) nm ns=e:=⟨_,rfl⟩
     obtain⟨FP,hFP⟩:∃f,thP all p.1.pts p.1.vias (sc.fail x er)=f:=⟨_,rfl⟩
     have HGO:Hid (F=thGo all bf.length (ns.length+1) bf (ns++[nm]) FP (s.all.drop (k+1))):=by
      unfold Hid;rw[HST.out,if_neg hkd2,hnm,hx,her,hFP]
     have HFP:=Lib.hid hFP
     rw[hkd] at c0
     replace c0:wA.cell? ⟨q12,0,none⟩=some (.int .u8 97):=c0
     have hnl:(sb nm).size≤140737488351232:=by have:=IA.out.nz;rw[hnm] at this;exact this
     have c10:=Bx.cell XA.out 10 (u:=.string (sb p.1.nm)) rfl
     rw[hnm] at c10
     have hff:=IA.out.f
     have hf0:=IA.out.f0
     rw[hx] at hff hfv hf0
     rw[hfv] at hff
     have HFF:=Lib.hid hff
     obtain⟨xl,hxl⟩:∃q,x.2.length=q:=⟨_,rfl⟩
     obtain⟨np,hnp⟩:∃q,p.1.pts.length=q:=⟨_,rfl⟩
     obtain⟨nv,hnv⟩:∃q,p.1.vias.length=q:=⟨_,rfl⟩
     rw[hxl] at hfv
     rw[hnp] at hpv hcp2
     rw[hnv] at hvv hcv2
     have HFV:=Lib.hid hfv
     have HPV:=Lib.hid hpv
     have HVV:=Lib.hid hvv
     have HXL:=Lib.hid hxl
     have HX:=Lib.hid hx
     have HNP:=Lib.hid hnp
     have HNV:=Lib.hid hnv
     have hnpv:np≤nv:=by rw[←hnp,←hnv];exact HPO.out.pv
     have hnv1:nv≤1000:=by rw[←hnv];exact HPO.out.vl
     have hKL:([65,73,82,87,65,89,32]++nm).length≤maxLen:=by
      rw[List.length_append];unfold maxLen;have:nm.length≤140737488351232:=hnl;simp;omega
     have hq12l:=Bx.lt XA.out
     obtain⟨kk,hkk⟩:∃kk,[65,73,82,87,65,89,32]++nm=kk:=⟨_,rfl⟩
     have HKEY:Hid ((⟨#[65,73,82,87,65,89,32]⟩:ByteArray)++sb nm=sb kk):=by unfold Hid;rw[←hkk];exact key_sb nm
     have lk:=fun pb:BelBy wA=>(TA.out.nm.below' pb.h).get Tryz.underlying91 false (zeroB _) (s:=sb ([65,73,82,87,65,89,32]++nm)) (by rw[sb_size];exact hKL)
     have hca:=fun w=>(counted_any ((ns.length:Int)+1) 60 (decide (nm∈ns)) w).mono (R':=fun e w'=>e=.returned (.int .i64 er)∧Below w.heap.size w w') (fun e w' h=>⟨by
      rw[h.1,←her];unfold thA
      by_cases h6:60<ns.length+1
      ·rw[if_pos h6,if_pos (by omega)]
      ·rw[if_neg h6,if_neg (by omega)]
       by_cases hm:nm∈ns
       ·rw[if_pos hm,if_pos (decide_eq_true hm)]
       ·rw[if_neg hm,if_neg (by rw[decide_eq_false hm];decide)],by rw[←h.2];exact Below.refl _ _⟩)
     rw[bl_sb,nsM_getD,hkk] at lk
     rw[hkk] at hKL
     have HKK:=Lib.hid hkk
     have v1:=fun pb:BelBy wA=>Bx.cell (Bx.via pb.h XA.out) 1 (u:=.int .i64 p.1.x.1) rfl
     have v2:=fun pb:BelBy wA=>Bx.cell (Bx.via pb.h XA.out) 2 (u:=p.2.fv) rfl
     rw[HX.out] at v1
     rw[HFV.out] at v2
     have hnsi:(ns.length:Int)≤1000:=by omega
     clear hkd hkd2 HST hff hpv hvv hxl hx hfv hnm her hFP hnp hnv hkk
     go_upto_region 30 with fail
     rw[HKEY.out]
     generalize decide (nm∈ns)=db at lk hca
     replace lk:∀pb:BelBy wA,(Instr.lookup 91 (.map (some nb)) (.string (sb kk)) false).run Tryz.prog pb.x=.ok (.bool db) pb.x:=lk
     refine wp_region_bel_tail 8 (by kernel_rfl) (by kernel_rfl) ?_
     simp only[List.take_succ_cons,List.take_zero,List.drop_succ_cons,List.drop_zero]
     repeat(quiet_step ((go_at_call 190;with_reducible exact Calls.bel_of (hca _))))
     try refine wpQuiet_nil ?_
     rintro wz ⟨pb,rfl⟩
     obtain⟨wb,hbb⟩:=pb
     show wpList _ _ _ _ _ wb
     have TX:=Lib.hid (TA.out.below hbb)
     have XX:Hid (ElBox wb q12 p):=Bx.via hbb XA.out
     have hfa:=fail_any w0 _ _ sc bv _ L x _ er wb TX.out.cp HFF.out hf0 (by have:=hsc.out.2.2.2;omega)
     rw[HXL.out] at hfa
     have HFA:=Lib.hid hfa
     clear hfa lk hca v1 v2 c0 c10 hbb TA XA IA
     go_wp2_with fail
     refine HFA.out.mono ?_
     rintro e w6 ⟨rfl,bv6,hc6,hf6,_⟩
     have T6:=Lib.hid (TX.out.fail hc6 hf6)
     have X6:Hid (ElBox w6 q12 p):=Bx.bad XX.out TX.out.cp hf6 (by decide) (by decide)
     clear hc6 hf6 HFA TX XX
     go_wp2_with (refine wpList_putB rfl _ _ _ rfl nb ns.length (nsM ns) rfl T6.out.nm (by unfold maxLen;omega) kk true rfl rfl hKL ?_)
     intro w7 m7 g7
     have T7:Hid (Th w0 w.heap.size (.slice (some ⟨gl,ol,none⟩) n c) (.slice (some ⟨ge,oe,none⟩) s.all.length ca) L w all q5 q6 b1 b2 b3 c1 c2 c3 nb (sc.fail x er) bv6 bf (ns++[nm]) w7):=by
      have hm7:=m7.out
      rw[←HKK.out] at hm7
      exact T6.out.name AP.out hm7 g7.out
     have X7:Hid (ElBox w7 q12 p):=(g7.out.block q12 (Bx.lt X6.out) (by intro e;injection e with e;exact map_nocell T6.out.nm X6.out e)).trans X6.out
     have c11:=Bx.cell X7.out 11 (u:=p.2.pv) rfl
     rw[HPV.out] at c11
     have hql:=Bx.lt X7.out
     clear m7 g7 T6 X6 hq12l
     have HSC6:Hid ((sc.fail x er).all=s.all∧(sc.fail x er).la=s.la∧(sc.fail x er).lo=s.lo∧(sc.fail x er).bad.length≤k*2000+1) :=
      ⟨(fail_all _ _ _).trans hsc.out.1,(fail_hd _ _ _).1.trans hsc.out.2.1,(fail_hd _ _ _).2.trans hsc.out.2.2.1,by have:=fail_bad sc x er;have:=hsc.out.2.2.2;omega⟩
     go_wp2_with fail
     go_loopw [127] (fun jv wr2=>∃(j:Nat) (sc2:Cp) (bv2:Value),j≤np∧jv=.int .i64 (j:Int)∧Hid (thP all (p.1.pts.drop j) (p.1.vias.drop j) sc2=FP)∧Hid (sc2.all=s.all∧sc2.la=s.la∧sc2.lo=s.lo∧sc2.bad.length≤k*2000+1+j)∧Hid (Th w0 w.heap.size (.slice (some ⟨gl,ol,none⟩) n c) (.slice (some ⟨ge,oe,none⟩) s.all.length ca) L w all q5 q6 b1 b2 b3 c1 c2 c3 nb sc2 bv2 bf (ns++[nm]) wr2)∧Hid (ElBox wr2 q12 p)) (fun jv _=>np-(intOf jv).toNat)
     case atStart=>exact⟨0,_,_,Nat.zero_le _,by first|rfl|go_num,HFP.out,HSC6.out,T7.out,X7.out⟩
     case round =>
      obtain⟨j,sc2,bv2,hj,rfl,hp2,hsc2,hth2,hx2⟩:=hrel
      by_cases hjl:j<np
      ·have hjp:j<p.1.pts.length:=by rw[HNP.out];exact hjl
       have hjv:j<p.1.vias.length:=by rw[HNV.out];omega
       have IN:=Lib.hid (hth2.out.cp.el p HPL.out)
       obtain⟨gp,op,cpp,hA,hgp,hat⟩:=PtsR.at_ (⟨IN.out.ps.1,IN.out.pz⟩:PtsR _ p.2.pv p.1.pts) hjp
       rw[HPV.out,HNP.out] at hA
       simp only[Value.slice.injEq,true_and] at hA
       obtain⟨rfl,rfl⟩:=hA
       have HPA:=thP_at all sc2 hjp hjv
       rw[hp2.out] at HPA
       have hqs:=(IN.out.pz _ (List.getElem_mem hjp)).1
       obtain⟨q,hq⟩:∃q,p.1.pts[j]=q:=⟨_,rfl⟩
       rw[hq] at hat hqs HPA
       obtain⟨y0,y1,y2,y3⟩:=hat
       have hji:(j:Int)<(np:Int):=by omega
       obtain⟨wB,hwB⟩:∃W,wr.alloc (.cells #[.string (sb q.ref),.int .i64 q.lo,.int .i64 q.hi,.int .u8 (q.dir:Int)] 53)=W:=⟨_,rfl⟩
       have BB:Hid (Below wr.heap.size wr wB):=by rw[←hwB];exact(Below.refl _ _).alloc (Nat.le_refl _) _
       have c0:wB.cell? ⟨wr.heap.size,0,none⟩=some (.string (sb q.ref)):=by rw[←hwB];simp[go_sem]
       have hbl:wr.heap.size<wB.heap.size:=by rw[←hwB];simp
       have TB:=Lib.hid (hth2.out.below BB.out)
       have XB:Hid (ElBox wB q12 p):=Bx.via BB.out hx2.out
       have IB:=Lib.hid (TB.out.ix.r)
       have g0:=TB.out.x5.cell 0 (u:=.map (some b1)) rfl
       have HWB:=Lib.hid hwB
       have HPA2:=Lib.hid HPA
       have HQS:=Lib.hid hqs
       clear hwB hth2 hx2 IN HPA hq hqs
       go_upto_region 35 with fail
       rw[HWB.out]
       clear HWB y0 y1 y2 y3
       by_cases hm:q.ref∈all.map fxRef
       ·have em:(rfM all q.ref).getD false=true:=by rw[rfM_getD,decide_eq_true hm]
        have HP3:Hid (thP all (p.1.pts.drop (j+1)) (p.1.vias.drop (j+1)) sc2=FP):=by
         have:=HPA2.out
         rw[if_pos hm] at this
         exact this.symm
        clear hm
        go_wp2_with (at_lookup;refine wpList_lookB rfl _ _ rfl b1 all.length (rfM all) rfl IB.out q.ref rfl HQS.out ?_)
        go_roundw
        case rel=>exact⟨j+1,_,_,hjl,by go_num,HP3,⟨hsc2.out.1,hsc2.out.2.1,hsc2.out.2.2.1,by have:=hsc2.out.2.2.2;omega⟩,TB.out,XB.out⟩
        case measure=>simp[intOf];omega
       ·have em:(rfM all q.ref).getD false=false:=by rw[rfM_getD,decide_eq_false hm]
        have HP3:Hid (thP all (p.1.pts.drop (j+1)) (p.1.vias.drop (j+1)) (sc2.fail (p.1.vias[j]'(by rw[HNV.out];omega)) 6)=FP):=by
         have:=HPA2.out
         rw[if_neg hm] at this
         exact this.symm
        have IN2:=Lib.hid (TB.out.cp.el p HPL.out)
        obtain⟨gv,gvo,cvv,fv,hA2,hgv,z0,z1,hfs,hok2⟩:=IN2.out.v.at_ (k:=j) (by rw[HNV.out];omega)
        rw[HVV.out,HNV.out] at hA2
        simp only[Value.slice.injEq,true_and] at hA2
        obtain⟨rfl,rfl⟩:=hA2
        have hv0:=HPO.out.vf _ (List.getElem_mem (l:=p.1.vias) (n:=j) (by rw[HNV.out];omega))
        obtain⟨y,hy⟩:∃y,p.1.vias[j]'(by rw[HNV.out];omega)=y:=⟨_,rfl⟩
        rw[hy] at HP3 z0 hfs hok2 hv0
        have z0':=(TB.out.cp.be.cell (p:=⟨gv,gvo+j*2,none⟩) hgv).trans z0
        have z1':=(TB.out.cp.be.cell (p:=⟨gv,gvo+j*2+1,none⟩) hgv).trans z1
        obtain⟨Af3,cf3,rfl,hcf3a,hcf3b⟩:=fld_le hfs
        have c12:=Bx.cell XB.out 12 (u:=p.2.vv) rfl
        rw[HVV.out] at c12
        have hfa:=fail_any w0 _ _ sc2 bv2 _ L y _ 6 wB TB.out.cp hfs hv0 (by have:=hsc2.out.2.2.2;omega)
        obtain⟨yl,hyl⟩:∃q,y.2.length=q:=⟨_,rfl⟩
        rw[hyl] at hfa z1' hcf3a
        have HFA:=Lib.hid hfa
        have hjv2:(j:Int)<(nv:Int):=by omega
        have hql2:=Bx.lt XB.out
        clear hm hfa hy hyl z0 z1 hfs hok2
        go_wp2_with (first|(at_lookup;refine wpList_lookB rfl _ _ rfl b1 all.length (rfM all) rfl IB.out q.ref rfl HQS.out ?_)|fail)
        refine HFA.out.mono ?_
        rintro e w8 ⟨rfl,bv8,hc8,hf8,_⟩
        have T8:=Lib.hid (TB.out.fail hc8 hf8)
        have X8:Hid (ElBox w8 q12 p):=Bx.bad XB.out TB.out.cp hf8 (by decide) (by decide)
        clear hc8 hf8 HFA TB XB IB g0 c0 c12 z0' z1'
        go_wp2
        go_roundw
        case rel=>exact⟨j+1,_,_,hjl,by go_num,HP3,⟨(fail_all _ _ _).trans hsc2.out.1,(fail_hd _ _ _).1.trans hsc2.out.2.1,(fail_hd _ _ _).2.trans hsc2.out.2.2.1,by have:=fail_bad sc2 y 6;have:=hsc2.out.2.2.2;omega⟩,T8.out,X8.out⟩
        case measure=>simp[intOf];omega
      ·have hjn:j=np:=by omega
       have HFIN:Hid (sc2=FP):=by
        have:=hp2.out
        rw[List.drop_of_length_le (by rw[HNP.out];omega),thP_nil] at this
        exact this
       go_wp2
       go_roundw
       case rel =>
        refine⟨k+1,bf,_,_,_,hlt,by go_num,rfl,?_,by omega,?_,?_,?_,hth2.out⟩
        ·rw[List.length_append];go_num
        ·rw[List.length_append,List.length_singleton];omega
        ·unfold Hid;rw[List.length_append,HFIN.out];exact HGO.out.symm
        ·exact⟨hsc2.out.1,hsc2.out.2.1,hsc2.out.2.2.1,by have:=hsc2.out.2.2.2;omega⟩
       case measure=>simp[intOf];omega
    ·have hkm:k=m:=by omega
     have HFIN:Hid (sc=F):=by
      have:=hgo.out
      rw[List.drop_of_length_le (by rw[HM.out];omega)] at this
      exact this
     go_wp2
     go_end0
     have e:=HFIN.out
     subst e
     exact⟨rfl,bv,hth.out.cp,hth.out.fr⟩
end Go.Proofs.YtgmehlgfilpleaaGreatDoor
