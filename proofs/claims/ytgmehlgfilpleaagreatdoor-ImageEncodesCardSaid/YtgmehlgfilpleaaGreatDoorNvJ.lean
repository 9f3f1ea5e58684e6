/-
  Contracts: the index of fixes of any kind (add, indexed, has), the error of the place of a fix, of a header, of a runway and of a leg's fixes.
-/
import Derived.Test.YtgmehlgfilpleaaGreatDoorMG19
import Derived.Test.YtgmehlgfilpleaaGreatDoorMG21
namespace Go.Proofs.YtgmehlgfilpleaaGreatDoor
open Go.RowKit
set_option linter.unusedVariables false
set_option linter.unusedSimpArgs false
def S3 (b1 b2 b3:Nat) (k:Nat):Prop:=k=b1∨k=b2∨k=b3
set_option maxRecDepth 100000 in
set_option maxHeartbeats 8000000 in
theorem addG_any (b1 b2 b3:Nat) (l:List Fx) (f:Fx) (w:World) (h:IxL b1 b2 b3 l w) (hn:l.length<1000000000) (hi:f.id.length≤1000000000000000) (hr:f.rg.length≤1000000000000000) (hk:f.kd<256) :
  Calls Tryz.prog 45 #[ixV b1 b2 b3,.agg #[.string (sb f.id),.string (sb f.rg),.int .u8 (f.kd:Int),.int .i64 f.lat,.int .i64 f.lon,.int .i64 f.el,.int .i64 f.ra]] w
   fun e w'=>e=.returned (.tuple #[])∧IxL b1 b2 b3 (l++[f]) w'∧Frm (S3 b1 b2 b3) w w':=by
 have hrf:=fun w=>fixRef_any f w hi hr
 unfold FRefPost at hrf
 have HL:Hid ((fxRef f).length≤maxLen):=by unfold Hid fxRef maxLen;rw[List.length_append,List.length_cons];omega
 have HLI:Hid (f.id.length≤maxLen):=by unfold Hid maxLen;omega
 have H:=Lib.hid h
 obtain⟨lt1,lt2,lt3⟩:=h.lt
 have HSR:=Lib.hid (rfs_snoc l f)
 have HA5:=Lib.hid (apt_snoc5 l f)
 have HAn:=Lib.hid (apt_snoc l f)
 have HU6:=Lib.hid (rws_snoc6 l f)
 have HUn:=Lib.hid (rws_snoc l f)
 obtain⟨n,hn2⟩:∃n,l.length=n:=⟨_,rfl⟩
 have HN2:=Lib.hid hn2
 rw[hn2] at hn
 have HFX:Hid (IxL b1 b2 b3 (l++[f])=IxR b1 b2 b3 (n+1) (bM (rfsB (l++[f]))) (bM (aptB (l++[f]))) (bM (rwsB (l++[f])))):=by
  unfold Hid;funext W;unfold IxL;rw[List.length_append,List.length_singleton,hn2]
 have hH:=h
 unfold IxL at hH
 rw[hn2] at hH
 have H:=Lib.hid hH
 obtain⟨rf,hrfe⟩:∃r,fxRef f=r:=⟨_,rfl⟩
 rw[hrfe] at hrf HL HSR HU6
 rw[HFX.out]
 have hkk:f.kd=5∨f.kd=6∨(f.kd≠5∧f.kd≠6):=by omega
 clear h hrfe HFX hn2 hH
 obtain⟨id,rg,kd,la,lo,el,ra⟩:=f
 simp only at hrf hk hi hr hkk HLI HA5 HAn HU6 HUn ⊢
 obtain⟨w0,hw0⟩:∃W,(w.alloc (.cells #[.map (some b1),.map (some b2),.map (some b3)] 93)).alloc (.cells #[.string (sb id),.string (sb rg),.int .u8 (kd:Int),.int .i64 la,.int .i64 lo,.int .i64 el,.int .i64 ra] 38)=W:=⟨_,rfl⟩
 have B0:Hid (Below w.heap.size w w0):=by rw[←hw0];exact((Below.refl _ _).alloc (Nat.le_refl _) _).alloc (by simp) _
 have X0:Hid (Bx w.heap.size #[.map (some b1),.map (some b2),.map (some b3)] 93 w0):=by rw[←hw0];exact(Bx.last w _ _).grow _
 have Y0:Hid (FxBox w0 (w.heap.size+1) ⟨id,rg,kd,la,lo,el,ra⟩):=by
  have h1:=Bx.last2 w (.cells #[.map (some b1),.map (some b2),.map (some b3)] 93) #[.string (sb id),.string (sb rg),.int .u8 (kd:Int),.int .i64 la,.int .i64 lo,.int .i64 el,.int .i64 ra] 38
  rw[hw0] at h1
  exact h1
 have u0:=fun pb:BelBy w0=>(X0.out.via pb.h).cell 0 (u:=.map (some b1)) rfl
 have v0:=fun pb:BelBy w0=>(Y0.out.below pb.h).cells.c0
 have v1:=fun pb:BelBy w0=>(Y0.out.below pb.h).cells.c1
 have v2:=fun pb:BelBy w0=>(Y0.out.below pb.h).cells.c2
 have v3:=fun pb:BelBy w0=>(Y0.out.below pb.h).cells.c3
 have v4:=fun pb:BelBy w0=>(Y0.out.below pb.h).cells.c4
 have v5:=fun pb:BelBy w0=>(Y0.out.below pb.h).cells.c5
 have v6:=fun pb:BelBy w0=>(Y0.out.below pb.h).cells.c6
 simp only at v0 v1 v2 v3 v4 v5 v6
 have HW0:=Lib.hid hw0
 clear hw0
 unfold ixV
 go_enter Tryz.func45,Tryz.ntmps45
 go_wp2_with fail
 rw[HW0.out]
 clear HW0
 refine wp_region_bel_tail 4 (by kernel_rfl) (by kernel_rfl) ?_
 simp only[List.take_succ_cons,List.take_zero,List.drop_succ_cons,List.drop_zero]
 repeat(quiet_step ((go_at_call 14;with_reducible exact Calls.bel_of (hrf _))))
 try refine wpQuiet_nil ?_
 rintro wz ⟨pb,rfl⟩
 obtain⟨wa,hba⟩:=pb
 show wpList _ _ _ _ _ wa
 have BA:=Lib.hid (Below.then_ B0.out hba)
 have XA:=Lib.hid (X0.out.via hba)
 have YA:=Lib.hid (Y0.out.below hba)
 have IA:=Lib.hid (H.out.below BA.out)
 clear u0 v0 v1 v2 v3 v4 v5 v6 hba X0 Y0 H
 refine wpList_putB rfl _ _ _ rfl b1 n _ rfl IA.out.r (by unfold maxLen;omega) rf true rfl rfl HL.out ?_
 intro wb hm hg
 have hlt:=lt_heap YA.out
 have hltx:=XA.out.lt
 have ne1:w.heap.size+1≠b1:=by omega
 have YB:Hid (FxBox wb (w.heap.size+1) ⟨id,rg,kd,la,lo,el,ra⟩):=(hg.out.block _ hlt (fun e=>by injection e with e;omega)).trans YA.out
 have XB:Hid (Bx w.heap.size #[.map (some b1),.map (some b2),.map (some b3)] 93 wb):=(hg.out.block _ hltx (fun e=>by injection e with e;omega)).trans XA.out
 have FB:Hid (Frm (S3 b1 b2 b3) w wb):=(Frm.of_below BA.out).trans (Frm.grown hg.out (.inl rfl))
 have IR:Hid (MapF elmB wb b1 (n+1) (setK (bM (rfsB l)) rf (some true))):=hm.out
 have IA2:Hid (MapF elmB wb b2 n (bM (aptB l))):=IA.out.a.kept hg.out (fun e=>by injection e with e;exact IA.out.d1 e.symm)
 have IU:Hid (MapF elmB wb b3 n (bM (rwsB l))):=IA.out.u.kept hg.out (fun e=>by injection e with e;exact IA.out.d2 e.symm)
 have D1:=Lib.hid IA.out.d1
 have D2:=Lib.hid IA.out.d2
 have D3:=Lib.hid IA.out.d3
 rw[←HSR.out] at IR
 clear hm hg BA YA IA XA HSR
 rcases hkk with rfl|rfl|⟨h5,h6⟩
 ·have k2:wb.cell? ⟨w.heap.size+1,2,none⟩=some (.int .u8 5):=YB.out.cells.c2
  have k0:wb.cell? ⟨w.heap.size+1,0,none⟩=some (.string (sb id)):=YB.out.cells.c0
  have i1:=XB.out.cell 1 (u:=.map (some b2)) rfl
  have hlx:=XB.out.lt
  have hly:=lt_heap YB.out
  have HA:=Lib.hid (HA5.out rfl)
  have HU:=Lib.hid (HUn.out (by decide))
  clear hrf hk HA5 HAn HU6 HUn
  go_wp2_with (refine wpList_putB rfl _ _ _ rfl b2 n _ rfl IA2.out (by unfold maxLen;omega) id true rfl rfl HLI.out ?_)
  intro wc hm hg
  have YC:Hid (FxBox wc (w.heap.size+1) ⟨id,rg,5,la,lo,el,ra⟩):=(hg.out.block _ hly (fun e=>by injection e with e;omega)).trans YB.out
  have FC:Hid (Frm (S3 b1 b2 b3) w wc):=FB.out.trans (Frm.grown hg.out (.inr (.inl rfl)))
  have IC:Hid (IxR b1 b2 b3 (n+1) (bM (rfsB (l++[⟨id,rg,5,la,lo,el,ra⟩]))) (bM (aptB (l++[⟨id,rg,5,la,lo,el,ra⟩]))) (bM (rwsB (l++[⟨id,rg,5,la,lo,el,ra⟩]))) wc):=by
   unfold Hid
   rw[HA.out,HU.out]
   exact⟨IR.out.kept hg.out (fun e=>by injection e with e;exact D1.out e),hm.out,(IU.out.mono (Nat.le_succ n)).kept hg.out (fun e=>by injection e with e;exact D3.out e.symm),D1.out,D2.out,D3.out⟩
  have k2':wc.cell? ⟨w.heap.size+1,2,none⟩=some (.int .u8 5):=YC.out.cells.c2
  have hly':=lt_heap YC.out
  clear hm hg IR IA2 IU FB YB XB k2 k0 i1 hlx hly
  go_wp2
  go_end0
  exact⟨rfl,IC.out,FC.out⟩
 ·have k2:wb.cell? ⟨w.heap.size+1,2,none⟩=some (.int .u8 6):=YB.out.cells.c2
  have hlx:=XB.out.lt
  have hly:=lt_heap YB.out
  have HA:=Lib.hid (HAn.out (by decide))
  have HU:=Lib.hid (HU6.out rfl)
  have u2:=fun pb:BelBy wb=>(XB.out.via pb.h).cell 2 (u:=.map (some b3)) rfl
  have v0:=fun pb:BelBy wb=>(YB.out.below pb.h).cells.c0
  have v1:=fun pb:BelBy wb=>(YB.out.below pb.h).cells.c1
  have v2:=fun pb:BelBy wb=>(YB.out.below pb.h).cells.c2
  have v3:=fun pb:BelBy wb=>(YB.out.below pb.h).cells.c3
  have v4:=fun pb:BelBy wb=>(YB.out.below pb.h).cells.c4
  have v5:=fun pb:BelBy wb=>(YB.out.below pb.h).cells.c5
  have v6:=fun pb:BelBy wb=>(YB.out.below pb.h).cells.c6
  simp only at v0 v1 v2 v3 v4 v5 v6
  clear hk HA5 HAn HU6 HUn
  go_wp2_with fail
  refine wp_region_bel_tail 4 (by kernel_rfl) (by kernel_rfl) ?_
  simp only[List.take_succ_cons,List.take_zero,List.drop_succ_cons,List.drop_zero]
  repeat(quiet_step ((go_at_call 14;with_reducible exact Calls.bel_of (hrf _))))
  try refine wpQuiet_nil ?_
  rintro wz ⟨pb,rfl⟩
  obtain⟨wc,hbc⟩:=pb
  show wpList _ _ _ _ _ wc
  have JR:=Lib.hid (IR.out.below' hbc)
  have JA:=Lib.hid (IA2.out.below' hbc)
  have JU:=Lib.hid (IU.out.below' hbc)
  have FC:Hid (Frm (S3 b1 b2 b3) w wc):=FB.out.trans (Frm.of_below hbc)
  clear u2 v0 v1 v2 v3 v4 v5 v6 hbc IR IA2 IU FB XB YB k2 hlx hly
  refine wpList_putB rfl _ _ _ rfl b3 n _ rfl JU.out (by unfold maxLen;omega) rf true rfl rfl HL.out ?_
  intro wd hm hg
  have FD:Hid (Frm (S3 b1 b2 b3) w wd):=FC.out.trans (Frm.grown hg.out (.inr (.inr rfl)))
  have ID:Hid (IxR b1 b2 b3 (n+1) (bM (rfsB (l++[⟨id,rg,6,la,lo,el,ra⟩]))) (bM (aptB (l++[⟨id,rg,6,la,lo,el,ra⟩]))) (bM (rwsB (l++[⟨id,rg,6,la,lo,el,ra⟩]))) wd):=by
   unfold Hid
   rw[HA.out,HU.out]
   exact⟨JR.out.kept hg.out (fun e=>by injection e with e;exact D2.out e),(JA.out.mono (Nat.le_succ n)).kept hg.out (fun e=>by injection e with e;exact D3.out e),hm.out,D1.out,D2.out,D3.out⟩
  clear hm hg JR JA JU FC
  go_wp2
  go_end0
  exact⟨rfl,ID.out,FD.out⟩
 ·have e5:((kd:Int) == 5)=false:=beq_eq_false_iff_ne.2 (by omega)
  have e6:((kd:Int) == 6)=false:=beq_eq_false_iff_ne.2 (by omega)
  have k2:wb.cell? ⟨w.heap.size+1,2,none⟩=some (.int .u8 (kd:Int)):=YB.out.cells.c2
  have hly:=lt_heap YB.out
  have HA:=Lib.hid (HAn.out h5)
  have HU:=Lib.hid (HUn.out h6)
  have ID:Hid (IxR b1 b2 b3 (n+1) (bM (rfsB (l++[⟨id,rg,kd,la,lo,el,ra⟩]))) (bM (aptB (l++[⟨id,rg,kd,la,lo,el,ra⟩]))) (bM (rwsB (l++[⟨id,rg,kd,la,lo,el,ra⟩]))) wb):=by
   unfold Hid
   rw[HA.out,HU.out]
   exact⟨IR.out,IA2.out.mono (Nat.le_succ n),IU.out.mono (Nat.le_succ n),D1.out,D2.out,D3.out⟩
  clear hrf hk HA5 HAn HU6 HUn h5 h6
  go_wp2
  go_end0
  exact⟨rfl,ID.out,FB.out⟩
set_option maxRecDepth 100000 in
set_option maxHeartbeats 4000000 in
theorem indexedG_any (v:Value) (l:List Fx) (w:World) (h:FxsR w v l) (hz:SzL l) (hk:∀f∈l,f.kd<256) (hN:l.length≤1000000) :
  Calls Tryz.prog 41 #[v] w fun e w'=>∃b1 b2 b3,e=.returned (ixV b1 b2 b3)∧IxL b1 b2 b3 l w'∧Below w.heap.size w w'∧w.heap.size≤b1∧w.heap.size≤b2∧w.heap.size≤b3:=by
 have hmm:=@run_makeMap Tryz.prog
 obtain⟨A,c,rfl,hc,hm⟩:=h.form
 obtain⟨n,hn⟩:∃n,l.length=n:=⟨_,rfl⟩
 have HN2:=Lib.hid hn
 have H:=Lib.hid h
 have HZ:=Lib.hid hz
 have HK:=Lib.hid hk
 rw[hn] at hc hN H
 try rw[hn]
 clear h hz hk hn
 go_enter Tryz.func41,Tryz.ntmps41
 go_wp2_with fail
 obtain⟨w0,hw0⟩:∃W,(((((w.alloc (.cells #[.map none,.map none,.map none] 93)).alloc (.map #[] 0)).alloc (.map #[] 0)).alloc (.map #[] 0)).alloc (.cells #[.map (some (w.heap.size+1)),.map (some (w.heap.size+1+1)),.map (some (w.heap.size+1+1+1))] 93))=W:=⟨_,rfl⟩
 rw[hw0]
 have HI:Hid (IxL (w.heap.size+1) (w.heap.size+1+1) (w.heap.size+1+1+1) [] w0∧Below w.heap.size w w0∧Bx w.heap.size #[.map none,.map none,.map none] 93 w0∧Bx (w.heap.size+1+1+1+1) #[.map (some (w.heap.size+1)),.map (some (w.heap.size+1+1)),.map (some (w.heap.size+1+1+1))] 93 w0):=by
  obtain⟨v1,hv1⟩:∃W,w.alloc (.cells #[.map none,.map none,.map none] 93)=W:=⟨_,rfl⟩
  obtain⟨v2,hv2⟩:∃W,v1.alloc (.map #[] 0)=W:=⟨_,rfl⟩
  obtain⟨v3,hv3⟩:∃W,v2.alloc (.map #[] 0)=W:=⟨_,rfl⟩
  obtain⟨v4,hv4⟩:∃W,v3.alloc (.map #[] 0)=W:=⟨_,rfl⟩
  have s1:v1.heap.size=w.heap.size+1:=by rw[←hv1];simp
  have s2:v2.heap.size=w.heap.size+1+1:=by rw[←hv2,World.size_alloc,s1]
  have s3:v3.heap.size=w.heap.size+1+1+1:=by rw[←hv3,World.size_alloc,s2]
  have s4:v4.heap.size=w.heap.size+1+1+1+1:=by rw[←hv4,World.size_alloc,s3]
  rw[hv1,hv2,hv3,hv4] at hw0
  have m1:MapF elmB v2 (w.heap.size+1) 0 (fun _=>none):=by have h:=MapF.made elmB v1;rw[hv2,s1] at h;exact h
  have m2:MapF elmB v3 (w.heap.size+1+1) 0 (fun _=>none):=by have h:=MapF.made elmB v2;rw[hv3,s2] at h;exact h
  have m3:MapF elmB v4 (w.heap.size+1+1+1) 0 (fun _=>none):=by have h:=MapF.made elmB v3;rw[hv4,s3] at h;exact h
  have t3:Below v2.heap.size v2 v3:=by rw[←hv3];exact(Below.refl _ _).alloc (Nat.le_refl _) _
  have t4:Below v3.heap.size v3 v4:=by rw[←hv4];exact(Below.refl _ _).alloc (Nat.le_refl _) _
  have t0:Below v4.heap.size v4 w0:=by rw[←hw0];exact(Below.refl _ _).alloc (Nat.le_refl _) _
  have t1:Below w.heap.size w v1:=by rw[←hv1];exact(Below.refl _ _).alloc (Nat.le_refl _) _
  have t2:Below v1.heap.size v1 v2:=by rw[←hv2];exact(Below.refl _ _).alloc (Nat.le_refl _) _
  have x1:Bx w.heap.size #[.map none,.map none,.map none] 93 v1:=by rw[←hv1];exact Bx.last w _ _
  have x4:Bx v4.heap.size #[.map (some (w.heap.size+1)),.map (some (w.heap.size+1+1)),.map (some (w.heap.size+1+1+1))] 93 w0:=by rw[←hw0];exact Bx.last v4 _ _
  rw[s4] at x4
  exact⟨⟨((m1.below' t3).below' t4).below' t0,(m2.below' t4).below' t0,m3.below' t0,by omega,by omega,by omega⟩,Below.then_ (Below.then_ (Below.then_ (Below.then_ t1 t2) t3) t4) t0,(((x1.via t2).via t3).via t4).via t0,x4⟩
 clear hw0 hmm
 obtain⟨b1,hb1⟩:∃b,w.heap.size+1=b:=⟨_,rfl⟩
 obtain⟨b2,hb2⟩:∃b,w.heap.size+1+1=b:=⟨_,rfl⟩
 obtain⟨b3,hb3⟩:∃b,w.heap.size+1+1+1=b:=⟨_,rfl⟩
 obtain⟨b4,hb4⟩:∃b,w.heap.size+1+1+1+1=b:=⟨_,rfl⟩
 rw[hb4,hb3,hb2,hb1] at HI
 rw[hb4,hb3,hb2,hb1]
 have HBS:Hid (w.heap.size<b1∧w.heap.size<b2∧w.heap.size<b3∧w.heap.size<b4∧¬S3 b1 b2 b3 b4):=by unfold Hid S3;omega
 clear hb1 hb2 hb3 hb4
 go_loopw [12] (fun iv wr=>∃k:Nat,k≤n∧iv=.int .i64 k∧Hid (IxL b1 b2 b3 (l.take k) wr)∧Hid (Frm (S3 b1 b2 b3) w0 wr)) (fun iv _=>n-(RowKit.intOf iv).toNat)
 case atStart=>exact⟨0,Nat.zero_le _,by first|rfl|go_num,by unfold Hid;rw[List.take_zero];exact HI.out.1,Frm.refl _ _⟩
 case round =>
  obtain⟨k,hk,rfl,hix,hfr⟩:=hrel
  have X4:Hid (Bx b4 #[.map (some b1),.map (some b2),.map (some b3)] 93 wr):=(hfr.out.block b4 HI.out.2.2.2.lt HBS.out.2.2.2.2).trans HI.out.2.2.2
  have X0:Hid (Bx w.heap.size #[.map none,.map none,.map none] 93 wr):=(hfr.out.block w.heap.size HI.out.2.2.1.lt (by have:=HBS.out;unfold S3;omega)).trans HI.out.2.2.1
  have BW:Hid (Below w.heap.size w wr):=HI.out.2.1.trans (hfr.out.below HI.out.2.1.size (fun k hk=>by have:=HBS.out;unfold S3 at hk;omega))
  have hl4:=X4.out.lt
  by_cases hlt:k<n
  ·have hkl:k<l.length:=by rw[HN2.out];exact hlt
   obtain⟨g,o,c',hA,hg,hx⟩:=(H.out.below BW.out).at_ (k:=k) (by exact hkl)
   rw[HN2.out] at hA
   simp only[Value.slice.injEq,true_and] at hA
   obtain⟨rfl,rfl⟩:=hA
   have hf:=HZ.out.get hkl
   have hfk:=HK.out _ (List.getElem_mem hkl)
   have HTK:Hid (l.take (k+1)=l.take k++[l[k]]):=List.take_succ_eq_append_getElem hkl
   have hkl2:(l.take k).length≤1000000:=by rw[List.length_take];omega
   obtain⟨f,hfe⟩:∃f,l[k]=f:=⟨_,rfl⟩
   rw[hfe] at hx hf hfk HTK
   obtain⟨y0,y1,y2,y3,y4,y5,y6⟩:=hx
   obtain⟨⟨x0,x1,x2⟩,_⟩:=X4.out.cells3
   obtain⟨wa,hwa⟩:∃W,wr.alloc (.cells #[.string (sb f.id),.string (sb f.rg),.int .u8 (f.kd:Int),.int .i64 f.lat,.int .i64 f.lon,.int .i64 f.el,.int .i64 f.ra] 38)=W:=⟨_,rfl⟩
   have BA:Hid (Below wr.heap.size wr wa):=by rw[←hwa];exact(Below.refl _ _).alloc (Nat.le_refl _) _
   have HWA:=Lib.hid hwa
   have IA:=Lib.hid (hix.out.below BA.out)
   have FA:Hid (Frm (S3 b1 b2 b3) w0 wa):=hfr.out.trans (Frm.of_below BA.out)
   have had:=addG_any b1 b2 b3 _ f wa IA.out (by omega) hf.1 hf.2 hfk
   unfold ixV at had
   rw[←HTK.out] at had
   have HAD:=Lib.hid had
   clear hwa hfe hix hfr had hf hfk HTK X0 hkl2
   go_wp2_with fail
   rw[HWA.out]
   refine HAD.out.mono ?_
   rintro e w2 ⟨rfl,hix2,hfr2⟩
   have HX2:=Lib.hid hix2
   have HF2:=Lib.hid (FA.out.trans hfr2)
   clear hix2 hfr2 HAD x0 x1 x2 y0 y1 y2 y3 y4 y5 y6
   go_wp2
   go_roundw
   case rel=>exact⟨k+1,hlt,by go_num,HX2,HF2⟩
   case measure=>simp[RowKit.intOf];omega
  ·have hkn:k=n:=by omega
   subst hkn
   have HIX:Hid (IxL b1 b2 b3 l wr):=by
    have h1:=hix.out
    rw[List.take_of_length_le (by rw[HN2.out];exact Nat.le_refl _)] at h1
    exact h1
   obtain⟨⟨x0,x1,x2⟩,_⟩:=X4.out.cells3
   obtain⟨⟨y0,y1,y2⟩,y3,y4,y5⟩:=X0.out.cells3
   have hx:=Bx.set3 X0.out (.map (some b1)) (.map (some b2)) (.map (some b3))
   have HF:Hid (Frm (· = w.heap.size) wr (((wr.setCell ⟨w.heap.size,0,none⟩ (.map (some b1))).setCell ⟨w.heap.size,1,none⟩ (.map (some b2))).setCell ⟨w.heap.size,2,none⟩ (.map (some b3)))) :=
    ⟨rfl,rfl,rfl,by simp,fun i hi hn=>by rw[heap_setCell_other _ ⟨w.heap.size,2,none⟩ i _ hn,heap_setCell_other _ ⟨w.heap.size,1,none⟩ i _ hn,heap_setCell_other _ ⟨w.heap.size,0,none⟩ i _ hn]⟩
   have HB:Hid (Below w.heap.size w (((wr.setCell ⟨w.heap.size,0,none⟩ (.map (some b1))).setCell ⟨w.heap.size,1,none⟩ (.map (some b2))).setCell ⟨w.heap.size,2,none⟩ (.map (some b3)))):=bel_set3 BW.out (Nat.le_refl _) _ _ _
   clear hix hfr
   go_wp2
   obtain⟨⟨z0,z1,z2⟩,_⟩:=hx.cells3
   refine bodyPost_ret (v:=ixV b1 b2 b3) (by unfold ixV;simp[results,Tryz.results41,go_sem,z0,z1,z2]) rfl ?_
   obtain⟨q1,q2,q3,_,_⟩:=HBS.out
   exact⟨b1,b2,b3,rfl,HIX.out.frm HF.out (by show ¬_=_;omega) (by show ¬_=_;omega) (by show ¬_=_;omega),HB.out,by omega,by omega,by omega⟩
theorem plcE_to {la lo:Int} {f:Fx} {bf al:List Fx} (h:toE la lo f.lat f.lon≠0):plcE la lo f bf al=toE la lo f.lat f.lon:=by unfold plcE;rw[if_pos h]
theorem plcE_5 {la lo:Int} {f:Fx} {bf al:List Fx} (h:toE la lo f.lat f.lon=0) (h5:f.kd=5):plcE la lo f bf al=if aptB bf f.id=true then 7 else 0:=by
 unfold plcE;rw[if_neg (by simp[h]),h5];cases aptB bf f.id <;> simp
theorem plcE_6 {la lo:Int} {f:Fx} {bf al:List Fx} (h:toE la lo f.lat f.lon=0) (h6:f.kd=6):plcE la lo f bf al=if aptB al f.rg=true then 0 else 6:=by
 unfold plcE;rw[if_neg (by simp[h]),h6];cases aptB al f.rg <;> simp
theorem plcE_n {la lo:Int} {f:Fx} {bf al:List Fx} (h:toE la lo f.lat f.lon=0) (h5:f.kd≠5) (h6:f.kd≠6):plcE la lo f bf al=0:=by
 unfold plcE;rw[if_neg (by simp[h])];simp[h5,h6]
set_option maxRecDepth 100000 in
set_option maxHeartbeats 8000000 in
theorem placedG_any (b1 b2 b3 c1 c2 c3:Nat) (bf al:List Fx) (f:Fx) (la lo:Int) (w:World) (hb:IxL b1 b2 b3 bf w) (hc:IxL c1 c2 c3 al w) (hf:FxOk f) :
  Calls Tryz.prog 44 #[.agg #[.string (sb f.id),.string (sb f.rg),.int .u8 (f.kd:Int),.int .i64 f.lat,.int .i64 f.lon,.int .i64 f.el,.int .i64 f.ra],.agg #[.int .i64 la,.int .i64 lo],ixV b1 b2 b3,ixV c1 c2 c3] w
   fun e w'=>e=.returned (.int .i64 (plcE la lo f bf al))∧Below w.heap.size w w':=by
 have tto:=fun w=>To_any la lo f.lat f.lon w
 have HT:=Lib.hid (@plcE_to la lo f bf al)
 have H5:=Lib.hid (@plcE_5 la lo f bf al)
 have H6:=Lib.hid (@plcE_6 la lo f bf al)
 have HN:=Lib.hid (@plcE_n la lo f bf al)
 have HB:=Lib.hid hb
 have HC:=Lib.hid hc
 obtain⟨pe,hpe⟩:∃x,plcE la lo f bf al=x:=⟨_,rfl⟩
 obtain⟨te,hte⟩:∃x,toE la lo f.lat f.lon=x:=⟨_,rfl⟩
 obtain⟨⟨tx,ty⟩,htp⟩:∃x,toP la lo f.lat f.lon=x:=⟨_,rfl⟩
 rw[hte,htp] at tto
 rw[hpe,hte] at HT H5 H6 HN
 rw[hpe]
 have HID:Hid (f.id.length≤maxLen):=hf.1
 have HRG:Hid (f.rg.length≤maxLen):=hf.2.1
 have hkk:f.kd=5∨f.kd=6∨(f.kd≠5∧f.kd≠6):=by omega
 clear hb hc hf hpe hte htp
 obtain⟨id,rg,kd,fla,flo,el,ra⟩:=f
 simp only at tto HT H5 H6 HN HID HRG hkk ⊢
 obtain⟨w0,hw0⟩:∃W,(((w.alloc (.cells #[.string (sb id),.string (sb rg),.int .u8 (kd:Int),.int .i64 fla,.int .i64 flo,.int .i64 el,.int .i64 ra] 38)).alloc (.cells #[.int .i64 la,.int .i64 lo] 23)).alloc (.cells #[.map (some b1),.map (some b2),.map (some b3)] 93)).alloc (.cells #[.map (some c1),.map (some c2),.map (some c3)] 93)=W:=⟨_,rfl⟩
 have B0:Hid (Below w.heap.size w w0):=by rw[←hw0];exact((((Below.refl _ _).alloc (Nat.le_refl _) _).alloc (by simp) _).alloc (by simp;omega) _).alloc (by simp;omega) _
 have Y0:Hid (FxBox w0 w.heap.size ⟨id,rg,kd,fla,flo,el,ra⟩):=by
  rw[←hw0];exact(((Bx.last w #[.string (sb id),.string (sb rg),.int .u8 (kd:Int),.int .i64 fla,.int .i64 flo,.int .i64 el,.int .i64 ra] 38).grow _).grow _).grow _
 have Z0:Hid (Bx (w.heap.size+1) #[.int .i64 la,.int .i64 lo] 23 w0):=by
  rw[←hw0];exact((Bx.last2 w (.cells #[.string (sb id),.string (sb rg),.int .u8 (kd:Int),.int .i64 fla,.int .i64 flo,.int .i64 el,.int .i64 ra] 38) #[.int .i64 la,.int .i64 lo] 23).grow _).grow _
 have P0:Hid (Bx (w.heap.size+1+1) #[.map (some b1),.map (some b2),.map (some b3)] 93 w0):=by
  have h1:=(Bx.last2 (w.alloc (.cells #[.string (sb id),.string (sb rg),.int .u8 (kd:Int),.int .i64 fla,.int .i64 flo,.int .i64 el,.int .i64 ra] 38)) (.cells #[.int .i64 la,.int .i64 lo] 23) #[.map (some b1),.map (some b2),.map (some b3)] 93).grow (.cells #[.map (some c1),.map (some c2),.map (some c3)] 93)
  rw[hw0,World.size_alloc] at h1
  exact h1
 have Q0:Hid (Bx (w.heap.size+1+1+1) #[.map (some c1),.map (some c2),.map (some c3)] 93 w0):=by
  have h1:=Bx.last2 ((w.alloc (.cells #[.string (sb id),.string (sb rg),.int .u8 (kd:Int),.int .i64 fla,.int .i64 flo,.int .i64 el,.int .i64 ra] 38)).alloc (.cells #[.int .i64 la,.int .i64 lo] 23)) (.cells #[.map (some b1),.map (some b2),.map (some b3)] 93) #[.map (some c1),.map (some c2),.map (some c3)] 93
  rw[hw0,World.size_alloc,World.size_alloc] at h1
  exact h1
 have k3:=Y0.out.cells.c3
 have k4:=Y0.out.cells.c4
 simp only at k3 k4
 have z0:=Z0.out.cell 0 (u:=.int .i64 la) rfl
 have z1:=Z0.out.cell 1 (u:=.int .i64 lo) rfl
 have HW0:=Lib.hid hw0
 clear hw0
 unfold ixV
 go_enter Tryz.func44,Tryz.ntmps44
 go_wp2_with fail
 rw[HW0.out]
 clear HW0
 refine(tto _).mono ?_
 rintro e w1 ⟨rfl,hb1⟩
 simp only
 obtain⟨w2,hw2⟩:∃W,w1.alloc (.cells #[.int .i64 tx,.int .i64 ty] 40)=W:=⟨_,rfl⟩
 have hb2:Below w0.heap.size w0 w2:=by rw[←hw2];exact hb1.alloc hb1.size _
 have B2:=Lib.hid (Below.then_ B0.out hb2)
 have Y2:=Lib.hid (Y0.out.below hb2)
 have P2:=Lib.hid (P0.out.via hb2)
 have Q2:=Lib.hid (Q0.out.via hb2)
 have IB:=Lib.hid (HB.out.below B2.out)
 have IC:=Lib.hid (HC.out.below B2.out)
 have HW2:=Lib.hid hw2
 clear hb1 hb2 hw2 B0 Y0 Z0 P0 Q0 HB HC k3 k4 z0 z1
 by_cases h0:te=0
 ·subst h0
  go_upto_region 2 with fail
  rw[HW2.out]
  have l2:=lt_heap Y2.out
  have lp:=P2.out.lt
  have lq:=Q2.out.lt
  rcases hkk with rfl|rfl|⟨n5,n6⟩
  ·have k2:w2.cell? ⟨w.heap.size,2,none⟩=some (.int .u8 5):=Y2.out.cells.c2
   have k0:w2.cell? ⟨w.heap.size,0,none⟩=some (.string (sb id)):=Y2.out.cells.c0
   have i1:=P2.out.cell 1 (u:=.map (some b2)) rfl
   have HE:=Lib.hid (H5.out rfl rfl)
   cases hv:aptB bf id with
   | true =>
    rw[hv] at HE
    have hlk:=IB.out.a.lookB HID.out hv
    clear hv
    go_wp2
    go_ret
    exact⟨ret_int (HE.out.trans (by rfl)).symm,B2.out⟩
   | false =>
    rw[hv] at HE
    have hlk:=IB.out.a.lookB HID.out hv
    clear hv
    go_wp2
    go_ret
    exact⟨ret_int (HE.out.trans (by rfl)).symm,B2.out⟩
  ·have k2:w2.cell? ⟨w.heap.size,2,none⟩=some (.int .u8 6):=Y2.out.cells.c2
   have k1:w2.cell? ⟨w.heap.size,1,none⟩=some (.string (sb rg)):=Y2.out.cells.c1
   have i1:=Q2.out.cell 1 (u:=.map (some c2)) rfl
   have HE:=Lib.hid (H6.out rfl rfl)
   cases hv:aptB al rg with
   | true =>
    rw[hv] at HE
    have hlk:=IC.out.a.lookB HRG.out hv
    clear hv
    go_wp2
    go_ret
    exact⟨ret_int (HE.out.trans (by rfl)).symm,B2.out⟩
   | false =>
    rw[hv] at HE
    have hlk:=IC.out.a.lookB HRG.out hv
    clear hv
    go_wp2
    go_ret
    exact⟨ret_int (HE.out.trans (by rfl)).symm,B2.out⟩
  ·have k2:w2.cell? ⟨w.heap.size,2,none⟩=some (.int .u8 (kd:Int)):=Y2.out.cells.c2
   have e5:((kd:Int) == 5)=false:=beq_eq_false_iff_ne.2 (by omega)
   have e6:((kd:Int) == 6)=false:=beq_eq_false_iff_ne.2 (by omega)
   have HE:=Lib.hid (HN.out rfl n5 n6)
   clear n5 n6
   go_wp2
   go_ret
   exact⟨ret_int HE.out.symm,B2.out⟩
 ·have e0:(te != 0)=true:=bne_iff_ne.2 h0
  have HE:=Lib.hid (HT.out h0)
  clear h0
  go_upto_region 2 with fail
  rw[HW2.out]
  go_wp2
  go_ret
  exact⟨ret_int HE.out.symm,B2.out⟩
theorem hdrE_nm {h:ImHd} (h1:nameB h.nm 8=false):hdrE h=5:=by unfold hdrE;rw[if_pos h1]
theorem hdrE_cd {h:ImHd} (h1:nameB h.nm 8=true) (h2:cdE h.cy≠0):hdrE h=cdE h.cy:=by unfold hdrE;rw[if_neg (by simp[h1]),if_pos h2]
theorem hdrE_cy {h:ImHd} (h1:nameB h.nm 8=true) (h2:cdE h.cy=0) (h3:h.fr≠cdF h.cy∨h.tu≠cdT h.cy):hdrE h=13:=by unfold hdrE;rw[if_neg (by simp[h1]),if_neg (by simp[h2]),if_pos h3]
theorem hdrE_to {h:ImHd} (h1:nameB h.nm 8=true) (h2:cdE h.cy=0) (h3:h.fr=cdF h.cy) (h4:h.tu=cdT h.cy):hdrE h=toE h.la h.lo h.la h.lo:=by unfold hdrE;rw[if_neg (by simp[h1]),if_neg (by simp[h2]),if_neg (by simp[h3,h4])]
set_option maxRecDepth 100000 in
set_option maxHeartbeats 8000000 in
theorem header_any (h:ImHd) (w:World) (hn:h.nm.length≤maxLen) :
  Calls Tryz.prog 40 #[.agg (hdD h).toArray] w fun e w'=>e=.returned (.int .i64 (hdrE h))∧Below w.heap.size w w':=by
 have H1:=Lib.hid (@hdrE_nm h)
 have H2:=Lib.hid (@hdrE_cd h)
 have H3:=Lib.hid (@hdrE_cy h)
 have H4:=Lib.hid (@hdrE_to h)
 obtain⟨x,hx⟩:∃x,hdrE h=x:=⟨_,rfl⟩
 rw[hx] at H1 H2 H3 H4
 rw[hx]
 clear hx
 obtain⟨nm,cy,fr,tu,la,lo⟩:=h
 simp only at H1 H2 H3 H4 hn
 unfold hdD
 simp only
 have nmA:=fun w=>name_any (sb nm) 8 w hn
 rw[bl_sb] at nmA
 have cd:=fun w=>cycleDays_any cy w
 have tto:=fun w=>To_any la lo la lo w
 obtain⟨nb,hnb⟩:∃x,nameB nm 8=x:=⟨_,rfl⟩
 obtain⟨ce,hce⟩:∃x,cdE cy=x:=⟨_,rfl⟩
 obtain⟨cf,hcf⟩:∃x,cdF cy=x:=⟨_,rfl⟩
 obtain⟨ct,hct⟩:∃x,cdT cy=x:=⟨_,rfl⟩
 obtain⟨te,hte⟩:∃x,toE la lo la lo=x:=⟨_,rfl⟩
 obtain⟨⟨tx,ty⟩,htp⟩:∃x,toP la lo la lo=x:=⟨_,rfl⟩
 rw[hnb] at nmA H1 H2 H3 H4
 rw[hce,hcf,hct] at cd
 rw[hce] at H2 H3 H4
 rw[hcf,hct] at H3 H4
 rw[hte,htp] at tto
 rw[hte] at H4
 simp only at tto
 clear hnb hce hcf hct hte htp hn
 obtain⟨w0,hw0⟩:∃W,w.alloc (.cells #[.string (sb nm),.int .i64 cy,.int .i64 fr,.int .i64 tu,.int .i64 la,.int .i64 lo] 25)=W:=⟨_,rfl⟩
 have B0:Hid (Below w.heap.size w w0):=by rw[←hw0];exact(Below.refl _ _).alloc (Nat.le_refl _) _
 have X0:Hid (Bx w.heap.size #[.string (sb nm),.int .i64 cy,.int .i64 fr,.int .i64 tu,.int .i64 la,.int .i64 lo] 25 w0):=by rw[←hw0];exact Bx.last w _ _
 have x0:=X0.out.cell 0 (u:=.string (sb nm)) rfl
 have x1:=X0.out.cell 1 (u:=.int .i64 cy) rfl
 have x2:=X0.out.cell 2 (u:=.int .i64 fr) rfl
 have x3:=X0.out.cell 3 (u:=.int .i64 tu) rfl
 have x4:=X0.out.cell 4 (u:=.int .i64 la) rfl
 have x5:=X0.out.cell 5 (u:=.int .i64 lo) rfl
 have HW0:=Lib.hid hw0
 clear hw0
 go_enter Tryz.func40,Tryz.ntmps40
 go_wp2_with fail
 rw[HW0.out]
 clear HW0
 refine(nmA _).mono ?_
 rintro e w1 ⟨rfl,rfl⟩
 cases nb with
 | false =>
  go_wp2
  go_ret
  exact⟨ret_int (H1.out (by trivial)).symm,B0.out⟩
 | true =>
  go_wp2_with fail
  refine(cd _).mono ?_
  rintro e w1 ⟨rfl,rfl⟩
  by_cases h0:ce=0
  ·subst h0
   by_cases h1:fr=cf
   ·by_cases h2:tu=ct
    ·have e1:(fr != cf)=false:=by simp[h1]
     have e2:(tu != ct)=false:=by simp[h2]
     have HE:=Lib.hid (H4.out (by trivial) (by trivial) h1 h2)
     clear h1 h2
     go_wp2_with fail
     refine(tto _).mono ?_
     rintro e w1 ⟨rfl,hb1⟩
     have B1:=Lib.hid (Below.then_ B0.out hb1)
     clear hb1 B0 X0 x0 x1 x2 x3 x4 x5
     go_wp2
     go_ret
     exact⟨ret_int HE.out.symm,B1.out⟩
    ·have e1:(fr != cf)=false:=by simp[h1]
     have e2:(tu != ct)=true:=bne_iff_ne.2 h2
     have HE:=Lib.hid (H3.out (by trivial) (by trivial) (.inr h2))
     clear h1 h2
     go_wp2
     go_ret
     exact⟨ret_int HE.out.symm,B0.out⟩
   ·have e1:(fr != cf)=true:=bne_iff_ne.2 h1
    have HE:=Lib.hid (H3.out (by trivial) (by trivial) (.inl h1))
    clear h1
    go_wp2
    go_ret
    exact⟨ret_int HE.out.symm,B0.out⟩
  ·have e0:(ce != 0)=true:=bne_iff_ne.2 h0
   have HE:=Lib.hid (H2.out (by trivial) h0)
   clear h0
   go_wp2
   go_ret
   exact⟨ret_int HE.out.symm,B0.out⟩
set_option maxRecDepth 100000 in
set_option maxHeartbeats 4000000 in
theorem hasG_any (b1 b2 b3:Nat) (l:List Fx) (r:List UInt8) (w:World) (h:IxL b1 b2 b3 l w) (hr:r.length≤maxLen) :
  Calls Tryz.prog 124 #[ixV b1 b2 b3,.string (sb r)] w fun e w'=>e=.returned (.bool (hasB l r))∧Below w.heap.size w w':=by
 obtain⟨w0,hw0⟩:∃W,w.alloc (.cells #[.map (some b1),.map (some b2),.map (some b3)] 93)=W:=⟨_,rfl⟩
 have B0:Hid (Below w.heap.size w w0):=by rw[←hw0];exact(Below.refl _ _).alloc (Nat.le_refl _) _
 have X0:Hid (Bx w.heap.size #[.map (some b1),.map (some b2),.map (some b3)] 93 w0):=by rw[←hw0];exact Bx.last w _ _
 have I0:=Lib.hid (h.below B0.out)
 have HR:=Lib.hid hr
 have x0:=X0.out.cell 0 (u:=.map (some b1)) rfl
 have xl:=X0.out.lt
 have HW0:=Lib.hid hw0
 have HV:Hid (hasB l r=(decide (r=[]) || rfsB l r)):=rfl
 clear hw0 h hr
 unfold ixV
 by_cases h0:r=[]
 ·have e0:((sb r).toList == [])=true:=by rw[h0,bl_toList,bl_sb];rfl
  have HE:Hid (hasB l r=true):=by unfold Hid;rw[HV.out,decide_eq_true h0];rfl
  clear h0
  go_enter Tryz.func124,Tryz.ntmps124
  go_wp2_with fail
  try rw[HW0.out]
  go_wp2
  go_ret
  exact⟨ret_bool HE.out.symm,B0.out⟩
 ·have e0:((sb r).toList == [])=false:=by rw[bl_toList,bl_sb,beq_eq_false_iff_ne];exact h0
  have HE:Hid (hasB l r=rfsB l r):=by unfold Hid;rw[HV.out,decide_eq_false h0];rfl
  have hlk:=I0.out.r.lookB HR.out (v:=rfsB l r) rfl
  clear h0
  go_enter Tryz.func124,Tryz.ntmps124
  go_upto_region 1 with fail
  try rw[HW0.out]
  go_wp2
  go_ret
  exact⟨ret_bool HE.out.symm,B0.out⟩
set_option maxRecDepth 100000 in
set_option maxHeartbeats 4000000 in
theorem fixesG_any (b1 b2 b3:Nat) (l:List Fx) (g:Lg) (w:World) (h:IxL b1 b2 b3 l w) (hg:LgOk g) :
  Calls Tryz.prog 48 #[.agg (lgc g).toArray,ixV b1 b2 b3] w fun e w'=>e=.returned (.int .i64 (if lgOkB l g=true then 0 else 6))∧Below w.heap.size w w':=by
 obtain⟨ty,fi,ce,tn,ov,cr,ds,ra,th,lo,hi,sp,rn⟩:=g
 have HV:Hid (lgOkB l ⟨ty,fi,ce,tn,ov,cr,ds,ra,th,lo,hi,sp,rn⟩=(hasB l fi&&hasB l ce)):=rfl
 have h1:=fun W (hb:Below w.heap.size w W)=>hasG_any b1 b2 b3 l fi W (h.below hb) hg.1
 have h2:=fun W (hb:Below w.heap.size w W)=>hasG_any b1 b2 b3 l ce W (h.below hb) hg.2.1
 rw[HV.out]
 clear HV
 obtain⟨v1,hv1⟩:∃x,hasB l fi=x:=⟨_,rfl⟩
 obtain⟨v2,hv2⟩:∃x,hasB l ce=x:=⟨_,rfl⟩
 rw[hv1] at h1
 rw[hv2] at h2
 rw[hv1,hv2]
 have C1:=Lib.hid h1
 have C2:=Lib.hid h2
 clear hv1 hv2 h1 h2 h hg
 unfold lgc
 obtain⟨w0,hw0⟩:∃W,(w.alloc (.cells #[.int .u8 (ty:Int),.string (sb fi),.string (sb ce),.int .u8 (tn:Int),.bool ov,.int .i64 cr,.int .i64 ds,.int .i64 ra,.int .i64 th,.int .i64 lo,.int .i64 hi,.int .i64 sp,.int .i64 rn] 65)).alloc (.cells #[.map (some b1),.map (some b2),.map (some b3)] 93)=W:=⟨_,rfl⟩
 have B0:Hid (Below w.heap.size w w0):=by rw[←hw0];exact((Below.refl _ _).alloc (Nat.le_refl _) _).alloc (by simp) _
 have X0:Hid (Bx w.heap.size #[.int .u8 (ty:Int),.string (sb fi),.string (sb ce),.int .u8 (tn:Int),.bool ov,.int .i64 cr,.int .i64 ds,.int .i64 ra,.int .i64 th,.int .i64 lo,.int .i64 hi,.int .i64 sp,.int .i64 rn] 65 w0):=by rw[←hw0];exact(Bx.last w _ _).grow _
 have Y0:Hid (Bx (w.heap.size+1) #[.map (some b1),.map (some b2),.map (some b3)] 93 w0):=by rw[←hw0];exact Bx.last2 w _ _ _
 have x1:=X0.out.cell 1 (u:=.string (sb fi)) rfl
 have xl:=X0.out.lt
 obtain⟨⟨y0,y1,y2⟩,_⟩:=Y0.out.cells3
 have HW0:=Lib.hid hw0
 clear hw0
 unfold ixV
 unfold ixV at C1 C2
 go_enter Tryz.func48,Tryz.ntmps48
 go_wp2_with fail
 rw[HW0.out]
 clear HW0
 refine(C1.out _ B0.out).mono ?_
 rintro e w1 ⟨rfl,hb1⟩
 have B1:=Lib.hid (Below.then_ B0.out hb1)
 have X1:=Lib.hid (X0.out.via hb1)
 have Y1:=Lib.hid (Y0.out.via hb1)
 clear hb1 x1 xl y0 y1 y2 X0 Y0 B0
 cases v1 with
 | false =>
  go_wp2
  go_ret
  exact⟨rfl,B1.out⟩
 | true =>
  have x2:=X1.out.cell 2 (u:=.string (sb ce)) rfl
  have xl:=X1.out.lt
  obtain⟨⟨y0,y1,y2⟩,_⟩:=Y1.out.cells3
  go_wp2_with fail
  refine(C2.out _ B1.out).mono ?_
  rintro e w2 ⟨rfl,hb2⟩
  have B2:=Lib.hid (Below.then_ B1.out hb2)
  clear hb2 x2 xl y0 y1 y2 X1 Y1 B1
  cases v2 with
  | false =>
   go_wp2
   go_ret
   exact⟨rfl,B2.out⟩
  | true =>
   go_wp2
   go_ret
   exact⟨rfl,B2.out⟩
set_option maxRecDepth 100000 in
set_option maxHeartbeats 4000000 in
theorem runwayG_any (b1 b2 b3:Nat) (l:List Fx) (pv lv:Value) (p:Prc) (x:Pa) (w:World) (h:IxL b1 b2 b3 l w) (hp:p.ap.length≤255) (hx:x.nm.length≤255) (hpv:pv.oneCell'=true) (hlv:lv.oneCell'=true) :
  Calls Tryz.prog 47 #[.agg (prc (pv,p)).toArray,.agg (pac (lv,x)).toArray,ixV b1 b2 b3] w fun e w'=>e=.returned (.int .i64 (if rwOk l p x=true then 0 else 6))∧Below w.heap.size w w':=by
 obtain⟨ap,nm,kd,pa⟩:=p
 obtain⟨xk,xn,xl⟩:=x
 simp only at hp hx
 have HR:Hid (sb xn++⟨#[47]⟩++sb ap=sb (xn++47::ap)):=by
  unfold Hid
  have h1:bl (sb xn++⟨#[47]⟩++sb ap)=xn++47::ap:=by rw[bl_append,bl_append,bl_sb,bl_sb];simp[bl_mk]
  rw[←h1,sb_bl]
 have HLN:Hid ((xn++47::ap).length≤maxLen):=by unfold Hid maxLen;rw[List.length_append,List.length_cons];omega
 have HV:Hid (rwOk l ⟨ap,nm,kd,pa⟩ ⟨xk,xn,xl⟩=(xk != 1 || rwsB l (xn++47::ap))):=rfl
 have hs1:(sb xn).size≤255:=hx
 have hs2:(sb ap).size≤255:=hp
 rw[HV.out]
 clear HV hp hx
 unfold prc pac
 simp only
 obtain⟨w0,hw0⟩:∃W,((w.alloc (.cells #[.string (sb ap),.string (sb nm),.int .u8 (kd:Int),pv] 57)).alloc (.cells #[.int .u8 (xk:Int),.string (sb xn),lv] 62)).alloc (.cells #[.map (some b1),.map (some b2),.map (some b3)] 93)=W:=⟨_,rfl⟩
 have B0:Hid (Below w.heap.size w w0):=by rw[←hw0];exact(((Below.refl _ _).alloc (Nat.le_refl _) _).alloc (by simp) _).alloc (by simp;omega) _
 have X0:Hid (Bx w.heap.size #[.string (sb ap),.string (sb nm),.int .u8 (kd:Int),pv] 57 w0):=by rw[←hw0];exact((Bx.last w _ _).grow _).grow _
 have Y0:Hid (Bx (w.heap.size+1) #[.int .u8 (xk:Int),.string (sb xn),lv] 62 w0):=by rw[←hw0];exact(Bx.last2 w _ _ _).grow _
 have Z0:Hid (Bx (w.heap.size+1+1) #[.map (some b1),.map (some b2),.map (some b3)] 93 w0):=by
  have h1:=Bx.last2 (w.alloc (.cells #[.string (sb ap),.string (sb nm),.int .u8 (kd:Int),pv] 57)) (.cells #[.int .u8 (xk:Int),.string (sb xn),lv] 62) #[.map (some b1),.map (some b2),.map (some b3)] 93
  rw[World.size_alloc,hw0] at h1
  exact h1
 have I0:=Lib.hid (h.below B0.out)
 have x0:=X0.out.cell 0 (u:=.string (sb ap)) rfl
 have y1:=Y0.out.cell 1 (u:=.string (sb xn)) rfl
 have z2:=Z0.out.cell 2 (u:=.map (some b3)) rfl
 have xl0:=X0.out.lt
 have yl0:=Y0.out.lt
 have zl0:=Z0.out.lt
 have HW0:=Lib.hid hw0
 clear hw0 h
 unfold ixV
 by_cases h1:xk=1
 ·have y0:w0.cell? ⟨w.heap.size+1,0,none⟩=some (.int .u8 1):=by
   have h2:=Y0.out.cell 0 (u:=.int .u8 (xk:Int)) rfl
   rw[h1] at h2;exact h2
  rw[show(xk != 1 || rwsB l (xn++47::ap))=rwsB l (xn++47::ap) by rw[h1];rfl]
  clear h1
  obtain⟨v,hv⟩:∃v,rwsB l (xn++47::ap)=v:=⟨_,rfl⟩
  have hlk:=I0.out.u.lookB HLN.out hv
  rw[←HR.out] at hlk
  rw[hv]
  clear hv
  go_enter Tryz.func47,Tryz.ntmps47
  go_upto_region 1 with fail
  rw[HW0.out]
  cases v with
  | true =>
   go_wp2
   go_ret
   exact⟨rfl,B0.out⟩
  | false =>
   go_wp2
   go_ret
   exact⟨rfl,B0.out⟩
 ·have y0:=Y0.out.cell 0 (u:=.int .u8 (xk:Int)) rfl
  have e1:((xk:Int) == 1)=false:=beq_eq_false_iff_ne.2 (by omega)
  rw[show(xk != 1 || rwsB l (xn++47::ap))=true by rw[bne_iff_ne.2 h1];rfl]
  clear h1
  go_enter Tryz.func47,Tryz.ntmps47
  go_upto_region 1 with fail
  rw[HW0.out]
  go_wp2
  go_ret
  exact⟨rfl,B0.out⟩
end Go.Proofs.YtgmehlgfilpleaaGreatDoor
