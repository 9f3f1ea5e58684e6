/-
  The law ImageEncodes: true at any database.
-/
import Derived.Test.YtgmehlgfilpleaaGreatDoorMG08
import Derived.Test.YtgmehlgfilpleaaGreatDoorFew
import Derived.Test.YtgmehlgfilpleaaGreatDoorMG07
import Derived.Test.YtgmehlgfilpleaaGreatDoorDbW
import Derived.Test.YtgmehlgfilpleaaGreatDoorRbS
import Derived.Test.YtgmehlgfilpleaaGreatDoorRkCk
namespace Go.Proofs.YtgmehlgfilpleaaGreatDoor
open Go.RowKit Go.Lib Go.Sort
set_option linter.unusedVariables false
set_option linter.unusedSimpArgs false
def REncPost (D:DbD) (w:World) (e:Ending) (w':World):Prop :=
 (dbE D≠0∧e=.returned (.tuple #[.slice none 0 0,.int .i64 (dbE D)])∧RowKit.Below w.heap.size w w') ∨
 (dbE D=0∧∃gb c,e=.returned (.tuple #[.slice (some ⟨gb,0,none⟩) (sealL (dbB D)).length c,.int .i64 0])∧(sealL (dbB D)).length≤c∧c≤maxLen∧BsA w' gb 0 (sealL (dbB D))∧RowKit.Below w.heap.size w w')
set_option maxRecDepth 100000 in
set_option maxHeartbeats 16000000 in
theorem rEncode_any (D:DbD) (f a p:Value) (w:World) (h:DbV w f a p D) (hz:SzD D) (hb:dbE D=0→DbB D∧(dbB D).length≤900000) :
  Calls Tryz.prog 21 #[.agg (dbC D.hd f a p).toArray] w (REncPost D w):=by
 obtain⟨Af,cf,rfl,hcf,hmf⟩:=h.fx.1.form
 obtain⟨Aa,ca,rfl,hca,hma⟩:=h.aw.form
 obtain⟨Ap,cp,rfl,hcp,hmp⟩:=h.pr.form
 have P1:Hid (∀W:World,dbE D≠0→RowKit.Below w.heap.size w W→REncPost D w (.returned (.tuple #[.slice none 0 0,.int .i64 (dbE D)])) W):=fun W h0 hB=>.inl ⟨h0,rfl,hB⟩
 have P2:Hid (∀(gb c:Nat) (W:World),dbE D=0→(sealL (dbB D)).length≤c→c≤maxLen→BsA W gb 0 (sealL (dbB D))→RowKit.Below w.heap.size w W→REncPost D w (.returned (.tuple #[.slice (some ⟨gb,0,none⟩) (sealL (dbB D)).length c,.int .i64 0])) W):=fun gb c W h0 h1 h2 h3 hB=>.inr ⟨h0,gb,c,rfl,h1,h2,h3,hB⟩
 obtain⟨w1,hw1⟩:∃W,w.alloc (.cells (dbA D.hd (.slice Af D.fx.length cf) (.slice Aa D.aw.length ca) (.slice Ap D.pr.length cp)) 30)=W:=⟨_,rfl⟩
 have B1:Hid (RowKit.Below w.heap.size w w1):=by rw[←hw1];exact(RowKit.Below.refl _ _).alloc (Nat.le_refl _) _
 have X1:Hid (Bx w.heap.size (dbA D.hd (.slice Af D.fx.length cf) (.slice Aa D.aw.length ca) (.slice Ap D.pr.length cp)) 30 w1):=by rw[←hw1];exact Bx.last w _ _
 have HV1:=Lib.hid (h.below B1.out)
 have hck:=rdbCheck_any D _ _ _ w1 HV1.out hz.fx hz.pr
 have HBY:=Lib.hid (fun W (hW:RowKit.Below w1.heap.size w1 W) (h0:dbE D=0)=>rbytes_any D _ _ _ W (HV1.out.below hW) (hb h0).1 (hb h0).2)
 rw[dbA_eq] at hck HBY ⊢
 obtain⟨er,her⟩:∃e,dbE D=e:=⟨_,rfl⟩
 rw[her] at P1 P2 hck HBY
 obtain⟨L,hL⟩:∃L,sealL (dbB D)=L:=⟨_,rfl⟩
 rw[hL] at P2 HBY
 obtain⟨n,hn⟩:∃n,D.fx.length=n:=⟨_,rfl⟩
 obtain⟨na,hna⟩:∃n,D.aw.length=n:=⟨_,rfl⟩
 obtain⟨np,hnp⟩:∃n,D.pr.length=n:=⟨_,rfl⟩
 rw[hn,hna,hnp] at hw1 X1 hck HBY ⊢
 unfold dbA at hw1 hck HBY ⊢
 have HW1:=Lib.hid hw1
 have HCK:=Lib.hid hck
 clear h hz hb her hL hn hna hnp hw1 hck hcf hmf hca hma hcp hmp
 go_enter Tryz.func21,Tryz.ntmps21
 go_upto_region 1 with fail
 rw[HW1.out]
 clear HW1
 obtain⟨⟨x0,x1,x2,x3,x4,x5,x6,x7,x8⟩,_⟩:=Bx.cells9 X1.out
 have xl:=X1.out.lt
 go_wp2_with fail
 refine HCK.out.mono ?_
 rintro e w2 ⟨rfl,hb2⟩
 have B2:=Lib.hid (Below.then_ B1.out hb2)
 have HB2:=Lib.hid hb2
 have X2:=Lib.hid (X1.out.via hb2)
 clear HCK hb2 x0 x1 x2 x3 x4 x5 x6 x7 x8 xl X1
 by_cases h0:er=0
 ·have HY:=Lib.hid (HBY.out w2 HB2.out h0)
  have H0:=Lib.hid h0
  subst h0
  obtain⟨⟨x0,x1,x2,x3,x4,x5,x6,x7,x8⟩,_⟩:=Bx.cells9 X2.out
  have xl:=X2.out.lt
  go_wp2_with fail
  refine HY.out.mono ?_
  rintro e w3 ⟨r,rfl,gb,c,rfl,hc1,hc2,-,hba,hb3⟩
  have HQ:=Lib.hid (P2.out gb c w3 (by first|trivial|rfl) hc1 hc2 hba (Below.then_ B2.out hb3))
  obtain⟨M,hM⟩:∃M,L.length=M:=⟨_,rfl⟩
  rw[hM] at HQ ⊢
  clear hc1 hc2 hba hb3 HY HBY P2 P1 x0 x1 x2 x3 x4 x5 x6 x7 x8 xl hM
  go_wp2
  go_ret2
  exact HQ.out
 ·have e0:(er != 0)=true:=bne_iff_ne.2 h0
  have HQ:=Lib.hid (P1.out w2 h0 B2.out)
  clear h0 HBY P1 P2
  go_wp2
  go_ret2
  exact HQ.out
set_option maxRecDepth 100000 in
set_option maxHeartbeats 16000000 in
theorem imageEncodes_walk (D:DbD) (f a p:Value) (w:World) (E:Env w) (hT:LegT w) (h:DbV w f a p D) (hz:SzL D.fx) :
  Calls Tryz.prog 5 #[.agg (dbC D.hd f a p).toArray] w fun e w'=>e=.returned (.bool true)∧Below w.heap.size w w':=by
 obtain⟨Af,cf,rfl,hcf,hmf⟩:=h.fx.1.form
 obtain⟨Aa,ca,rfl,hca,hma⟩:=h.aw.form
 obtain⟨Ap,cp,rfl,hcp,hmp⟩:=h.pr.form
 obtain⟨n,hn⟩:∃n,D.fx.length=n:=⟨_,rfl⟩
 obtain⟨na,hna⟩:∃n,D.aw.length=n:=⟨_,rfl⟩
 obtain⟨np,hnp⟩:∃n,D.pr.length=n:=⟨_,rfl⟩
 rw[hn,hna,hnp] at h ⊢
 have HH:=Lib.hid h
 rw[dbA_eq]
 unfold dbA
 obtain⟨w1,hw1⟩:∃W,w.alloc (.cells (dbA D.hd (.slice Af n cf) (.slice Aa na ca) (.slice Ap np cp)) 30)=W:=⟨_,rfl⟩
 obtain⟨q,hq⟩:∃q,w.heap.size=q:=⟨_,rfl⟩
 have B1:Hid (Below w.heap.size w w1):=by rw[←hw1];exact(Below.refl _ _).alloc (Nat.le_refl _) _
 have X1:Hid (Bx q (dbA D.hd (.slice Af n cf) (.slice Aa na ca) (.slice Ap np cp)) 30 w1):=by rw[←hw1,←hq];exact Bx.last w _ _
 have haw:=Lib.hid (awake19_any w1 (E.below B1.out) (hT.below B1.out))
 have HT:=Lib.hid hT
 have HZ:=Lib.hid hz
 unfold dbA at hw1
 have HW1:=Lib.hid hw1
 have HQ:=Lib.hid hq
 clear h hw1 hn hna hnp hq hcf hmf hca hma hcp hmp hT E hz
 go_enter Tryz.func5,Tryz.ntmps5
 go_upto_region 1 with fail
 rw[HW1.out,HQ.out]
 clear HW1
 go_wp2_with fail
 refine haw.out.mono ?_
 rintro e w2 ⟨rfl,hb2⟩
 have B2:=Lib.hid (Below.then_ B1.out hb2)
 have X2:=Lib.hid (X1.out.via hb2)
 obtain⟨⟨x0,x1,x2,x3,x4,x5,x6,x7,x8⟩,_⟩:=Bx.cells9 X2.out
 have xl:=X2.out.lt
 have hfew:=fewDb_any D (.slice Af n cf) (.slice Aa na ca) (.slice Ap np cp) w2 (HH.out.below B2.out)
 rw[dbA_eq] at hfew
 unfold dbA at hfew
 have HFEW:=Lib.hid hfew
 clear hb2 haw hfew X1 B1
 go_wp2_with fail
 refine HFEW.out.mono ?_
 rintro e w3 ⟨⟨f3,a3,p3,rfl,hv3⟩,hb3⟩
 have B3:=Lib.hid (Below.then_ B2.out hb3)
 obtain⟨Bf,df,rfl,hcf,hmf⟩:=hv3.fx.1.form
 obtain⟨Ba,da,rfl,hca,hma⟩:=hv3.aw.form
 obtain⟨Bp,dp,rfl,hcp,hmp⟩:=hv3.pr.form
 obtain⟨D3,hD3⟩:∃X,fewD D=X:=⟨_,rfl⟩
 have hh3:D3.hd=D.hd:=by rw[←hD3];rfl
 have hsz:=fewD_sz HZ.out
 have hbd0:dbE D3=0→(dbB D3).length≤900000:=fun h0=>by rw[←hD3] at h0 ⊢;exact fewD_len (dbE_b h0)
 rw[hD3] at hv3 hcf hca hcp hsz ⊢
 obtain⟨n3,hn3⟩:∃n,D3.fx.length=n:=⟨_,rfl⟩
 obtain⟨na3,hna3⟩:∃n,D3.aw.length=n:=⟨_,rfl⟩
 obtain⟨np3,hnp3⟩:∃n,D3.pr.length=n:=⟨_,rfl⟩
 rw[hn3,hna3,hnp3] at hv3 ⊢
 have X3:=Lib.hid (X2.out.via hb3)
 have W3:Hid (Bx q (dbA D.hd (.slice Bf n3 df) (.slice Ba na3 da) (.slice Bp np3 dp)) 30 (w3.setRow q (dbA D.hd (.slice Bf n3 df) (.slice Ba na3 da) (.slice Bp np3 dp)))):=setRow_heap _ q _ _ 30 (0,0) X3.out
 have B9:Hid (Below w.heap.size w (w3.setRow q (dbA D.hd (.slice Bf n3 df) (.slice Ba na3 da) (.slice Bp np3 dp)))):=row_below B3.out HQ.out
 have hv9:=hv3.but (But.setRow w3 q (dbA D.hd (.slice Bf n3 df) (.slice Ba na3 da) (.slice Bp np3 dp))) (box9_of X3.out)
 have hone:(dbA D.hd (.slice Bf n3 df) (.slice Ba na3 da) (.slice Bp np3 dp)).all (·.oneCell')=true:=by simp[dbA,Value.oneCell']
 obtain⟨W9,hW9⟩:∃W,w3.setRow q (dbA D.hd (.slice Bf n3 df) (.slice Ba na3 da) (.slice Bp np3 dp))=W:=⟨_,rfl⟩
 rw[hW9] at W3 B9 hv9
 have hen:=imEncode_any D3 _ _ _ W9 (HT.out.below B9.out) hv9 hsz hbd0
 rw[hh3,dbA_eq] at hen
 have HV9:=Lib.hid hv9
 have HSZ:=Lib.hid hsz
 rw[dbA_eq]
 have HEN:=Lib.hid hen
 have hre:=fun W (hW:RowKit.Below W9.heap.size W9 W)=>rEncode_any D3 _ _ _ W (hv9.below hW) hsz (fun h0=>⟨dbE_b h0,hbd0 h0⟩)
 rw[hh3,dbA_eq] at hre
 unfold dbA at hre
 have HRE:=Lib.hid hre
 clear hre
 have HW9:=Lib.hid hW9
 have HBD:=Lib.hid hbd0
 have HH3:=Lib.hid hh3
 have H3:Hid (D3.fx.length=n3∧D3.aw.length=na3∧D3.pr.length=np3):=⟨hn3,hna3,hnp3⟩
 have hnl:(n3:Int)≤9223372036854775807∧(na3:Int)≤9223372036854775807∧(np3:Int)≤9223372036854775807:=by unfold maxLen at hmf hma hmp;omega
 have HNL:=Lib.hid hnl
 clear hb3 hen B2 X2 HFEW hv3 x0 x1 x2 x3 x4 x5 x6 x7 x8 xl hcf hmf hca hma hcp hmp hD3 hh3 hsz hbd0 hn3 hna3 hnp3 hv9 hW9 hnl HZ
 go_upto_region 4 with (refine wpList_plain rfl fun _ hK=>wp_store_row 30 (.tmp 1) (.tmp 10) rfl q (dbA D.hd (.slice Bf n3 df) (.slice Ba na3 da) (.slice Bp np3 dp)) rfl rfl 30 _ X3.out infoDB9 rfl hone (hK _ _ ?_))
 rw[HW9.out]
 clear HW9 hone X3
 obtain⟨⟨x0,x1,x2,x3,x4,x5,x6,x7,x8⟩,_⟩:=Bx.cells9 W3.out
 have xl:=W3.out.lt
 have hen:=HEN.out
 unfold dbA at hen
 have HEN2:=Lib.hid hen
 clear hen HEN
 go_wp2_with fail
 refine HEN2.out.mono ?_
 rintro e w4 (⟨hne,rfl,hb4⟩|⟨hz0,vp,rfl,hnew⟩)
 ·have B4:=Lib.hid (Below.then_ B9.out hb4)
  have X4:=Lib.hid (W3.out.via hb4)
  have HR4:=Lib.hid (HRE.out w4 hb4)
  have HNE:=Lib.hid hne
  obtain⟨x,hx⟩:∃x,dbE D3=x:=⟨_,rfl⟩
  have HX:=Lib.hid hx
  rw[hx]
  clear hne hx hb4 HEN2 x0 x1 x2 x3 x4 x5 x6 x7 x8 xl HRE
  obtain⟨⟨x0,x1,x2,x3,x4,x5,x6,x7,x8⟩,_⟩:=Bx.cells9 X4.out
  have xl:=X4.out.lt
  go_wp2_with fail
  refine HR4.out.mono ?_
  rintro e w5 (⟨-,rfl,hb5⟩|⟨hz5,-⟩)
  rotate_left
  ·exact absurd hz5 HNE.out
  rw[HX.out]
  have B5:=Lib.hid (Below.then_ B4.out hb5)
  have cn:∀W:World,(convert 68 9 (.slice none 0 0)).run Tryz.prog W=.ok (.string (sb [])) W:=fun W=>bsv_string (l:=[]) ⟨none,0,rfl,Nat.le_refl _,by unfold maxLen;omega,fun h=>absurd h (by simp)⟩
  clear HR4 hb5 x0 x1 x2 x3 x4 x5 x6 x7 x8 xl X4
  go_wp2
  go_ret
  exact⟨by first|rfl|simp,B5.out⟩
 ·obtain⟨gb,cc,rfl,hcc,hcm,-,hba,hb4⟩:=hnew
  have B4:=Lib.hid (Below.then_ B9.out hb4)
  have X4:=Lib.hid (W3.out.via hb4)
  have HR4:=Lib.hid (HRE.out w4 hb4)
  have HZ0:=Lib.hid hz0
  obtain⟨L,hL⟩:∃L,sealL (dbB D3)=L:=⟨_,rfl⟩
  have HL:=Lib.hid hL
  rw[hL] at hba hcc ⊢
  have HBA:=Lib.hid hba
  have HCC:=Lib.hid hcc
  have HCM:=Lib.hid hcm
  obtain⟨M,hM⟩:∃M,L.length=M:=⟨_,rfl⟩
  have HM:=Lib.hid hM
  rw[hM]
  clear hba hcc hcm hb4 hz0 hL hM HEN2 x0 x1 x2 x3 x4 x5 x6 x7 x8 xl HRE
  obtain⟨⟨x0,x1,x2,x3,x4,x5,x6,x7,x8⟩,_⟩:=Bx.cells9 X4.out
  have xl:=X4.out.lt
  go_wp2_with fail
  refine HR4.out.mono ?_
  rintro e w5 (⟨hne,-⟩|⟨-,g2,c2,rfl,hc2,hm2,hba2,hb5⟩)
  ·exact absurd HZ0.out hne
  have B5:=Lib.hid (Below.then_ B4.out hb5)
  rw[HL.out] at hba2 hc2 ⊢
  have c1:(convert 68 9 (.slice (some ⟨gb,0,none⟩) M cc)).run Tryz.prog w5=.ok (.string (sb L)) w5:=by
   rw[←HM.out];exact bsv_string ⟨_,cc,rfl,HCC.out,HCM.out,fun _=>⟨gb,0,rfl,HBA.out.below hb5⟩⟩
  have c2':(convert 68 9 (.slice (some ⟨g2,0,none⟩) M c2)).run Tryz.prog w5=.ok (.string (sb L)) w5:=by
   rw[←HM.out];exact bsv_string ⟨_,c2,rfl,hc2,hm2,fun _=>⟨g2,0,rfl,hba2⟩⟩
  have se:((sb L).toList == (sb L).toList)=true:=by simp
  rw[HM.out]
  clear HR4 hb5 hba2 hc2 hm2 x0 x1 x2 x3 x4 x5 x6 x7 x8 xl X4 HBA
  go_wp2
  go_ret
  exact⟨by first|rfl|simp,B5.out⟩
end Go.Proofs.YtgmehlgfilpleaaGreatDoor
