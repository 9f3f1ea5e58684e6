/-
  Several texts as one.
-/
import Derived.Test.YtgmehlgfilpleaaGreatDoorMG19
import Derived.Test.YtgmehlgfilpleaaGreatDoorMG01
import Derived.Test.YtgmehlgfilpleaaGreatDoorMG16
import Derived.Deep.DeepCutAuto
import Derived.Test.YtgmehlgfilpleaaGreatDoorRkTo
namespace Go.Proofs.YtgmehlgfilpleaaGreatDoor
open Go.RowKit
set_option linter.unusedVariables false
set_option linter.unusedSimpArgs false
def rkUs:List (List UInt8):=[[],[70],[70,111],[70,111,75],[70,111],[70,67,84,82],[70,67,84,82],[75,97],[67,75,68],[75],[67,75,72],[70,75,97],[70,75,68],[70,75],[70,84,75,68,97],[70,84,75,68],[70,84,75,68],[70,84,75,68]]
def rkU (t:Nat):List UInt8:=rkUs.getD t []
def hasC (u:List UInt8) (c:UInt8):Bool:=u.any fun x=>x == c
theorem rkU_bits:∀t,t<18→hasC (rkU t) 70=bitU (legU t) 1∧hasC (rkU t) 67=bitU (legU t) 2∧hasC (rkU t) 84=bitU (legU t) 4∧hasC (rkU t) 111=bitU (legU t) 8∧hasC (rkU t) 75=bitU (legU t) 16 ∧
  hasC (rkU t) 68=bitU (legU t) 32∧hasC (rkU t) 82=bitU (legU t) 64∧hasC (rkU t) 72=bitU (legU t) 128∧hasC (rkU t) 97=climbs t:=by decide +kernel
theorem rkU_nil1:∀t,t<18→(rkU t=[]↔t<1):=by decide +kernel
theorem rkU_nil (t:Nat):decide (rkU t=[])=decide (t<1∨17<t):=by
 by_cases h:t<18
 ·have:=rkU_nil1 t h
  by_cases h0:t<1
  ·rw[decide_eq_true (this.2 h0),decide_eq_true (.inl h0)]
  ·rw[decide_eq_false (fun e=>h0 (this.1 e)),decide_eq_false (by omega)]
 ·have h2:rkU t=[]:=by
   unfold rkU
   rw[List.getD_eq_getElem?_getD,List.getElem?_eq_none (by show 18≤t;omega)];rfl
  rw[decide_eq_true h2,decide_eq_true (.inr (by omega))]
theorem flw_out {a b:Nat} (h:a<1∨17<a∨b<1∨17<b):flwB a b=false:=by
 unfold flwB
 rcases h with h|h|h|h
 ·rw[decide_eq_false (p:=1≤a) (by omega)];rfl
 ·rw[decide_eq_false (p:=a≤17) (by omega)];simp
 ·rw[decide_eq_false (p:=1≤b) (by omega)];simp
 ·rw[decide_eq_false (p:=b≤17) (by omega)];simp
theorem flw_1:∀a,a<18→flwB a 1=false:=by decide +kernel
theorem flw_6:∀a,a<18→1≤a→a≤6→∀b,b<18→2≤b→flwB a b=true:=by decide +kernel
theorem flw_9:∀b,b<18→2≤b→flwB 9 b=(b == 3):=by decide +kernel
theorem flw_13:∀b,b<18→flwB 13 b=false:=by decide +kernel
theorem flw_14:∀a,a<18→14≤a→∀b,b<18→2≤b→flwB a b=(b == 2 || b == 3 || b == 4 || (decide (7≤b)&&decide (b≤13))):=by decide +kernel
theorem flw_r:∀a,a<18→(7≤a∧a≤12∧¬a=9)→∀b,b<18→2≤b→flwB a b=(b == 3 || b == 4 || (decide (7≤b)&&decide (b≤10))):=by decide +kernel
theorem fstE_all0:∀{L:List Int},fstE L=0→∀e∈L,e=0
 | [],_,e,h=>by cases h
 | a::t,h,e,he=>by
  by_cases h0:a=0
  ·rw[fstE_cons,if_pos h0] at h
   rcases List.mem_cons.1 he with rfl|h2
   ·exact h0
   ·exact fstE_all0 h e h2
  ·rw[fstE_n h0] at h;exact absurd h h0
def kndR (k:Nat):List Nat:=if k=2 then [3,2,1] else if k=3 then [3,2,4] else [1,2,3]
def rnkN (k x:Nat):Nat:=if x∈kndR k then (kndR k).idxOf x+1 else 0
theorem kndR_eq {k:Nat} (h:k=1∨k=2∨k=3):kndR k=kndL k:=by rcases h with rfl|rfl|rfl <;> rfl
theorem rnk_zero {k x:Nat} (h:k=1∨k=2∨k=3):rnkN k x=0↔x ∉ kndL k:=by
 unfold rnkN;rw[kndR_eq h]
 by_cases hx:x∈kndL k
 ·rw[if_pos hx];simp[hx]
 ·rw[if_neg hx];simp[hx]
theorem rnk_in {k x:Nat} (h:k=1∨k=2∨k=3) (hx:x∈kndL k):rnkN k x=(kndL k).idxOf x+1:=by
 unfold rnkN;rw[kndR_eq h,if_pos hx]
theorem paO_rnk {k:Nat} {x y:Pa} (h:k=1∨k=2∨k=3) (hx:x.kd∈kndL k) (hy:y.kd∈kndL k) :
  paO k x y=if rnkN k x.kd<rnkN k y.kd then 9 else if rnkN k x.kd=rnkN k y.kd then (if x.nm<y.nm then 9 else if x.nm=y.nm then 7 else 0) else 0:=by
 unfold paO
 rw[rnk_in h hx,rnk_in h hy]
 simp only[Nat.add_lt_add_iff_right,Nat.add_right_cancel_iff]
theorem pa1_nmd {pk:Nat} {l:List Pa} {i:Nat} (hi:i<l.length) (h:pa1E pk l i=0):nmdE l[i]=0:=by
 have h2:=fstE_all0 h (nmdE (l.getD i pa0)) (by simp)
 rwa [show l.getD i pa0=l[i] from by rw[List.getD_eq_getElem?_getD,List.getElem?_eq_getElem hi];rfl] at h2
theorem cmn_any {pk:Nat} {l:List Pa} (h:∀j,j<l.length→pa1E pk l j=0):cmnB l=l.any fun x=>x.kd == 2:=by
 have hn:∀x∈l,x.kd=2→x.nm=[]:=by
  intro x hx hk
  obtain⟨i,hi,rfl⟩:=List.getElem_of_mem hx
  have h1:=pa1_nmd hi (h i hi)
  unfold nmdE at h1
  rw[if_neg (by omega)] at h1
  by_cases h2:l[i].nm=[]
  ·exact h2
  ·rw[if_neg h2] at h1;cases h1
 unfold cmnB
 rw[Bool.eq_iff_iff,List.any_eq_true,List.any_eq_true]
 constructor
 ·rintro⟨x,hx,h1⟩
  rw[Bool.and_eq_true] at h1
  exact⟨x,hx,h1.1⟩
 ·rintro⟨x,hx,h1⟩
  refine⟨x,hx,?_⟩
  rw[Bool.and_eq_true]
  exact⟨h1,decide_eq_true (hn x hx (by simpa using h1))⟩
theorem name_47 {l:List UInt8} {m:Int} (h:nameB l m=true):(47:UInt8) ∉ l:=by
 unfold nameB at h
 rw[Bool.and_eq_true] at h
 intro e
 have h2:=List.all_eq_true.1 h.2 _ e
 exact absurd h2 (by decide)
def rwR (fx:List Fx) (ap nm:List UInt8):Bool:=fx.any fun f=>f.kd == 6&&(decide (f.id=nm)&&decide (f.rg=ap))
def rwOkR (fx:List Fx) (p:Prc) (x:Pa):Bool:=x.kd != 1 || rwR fx p.ap x.nm
theorem fix_name {f:Fx} (h:fixE f=0):nameB f.id 6=true:=by
 unfold fixE at h
 by_cases h1:f.kd<1∨6<f.kd
 ·rw[if_pos h1] at h;cases h
 ·rw[if_neg h1] at h
  by_cases h2:identE f.id f.kd≠0
  ·rw[if_pos h2] at h;cases h
  ·have h3:identE f.id f.kd=0:=Classical.byContradiction h2
   unfold identE at h3
   cases hn:nameB f.id 6
   ·rw[hn] at h3;cases h3
   ·rfl
theorem rw_eq {fx:List Fx} {ap nm:List UInt8} (hf:∀f∈fx,fixE f=0) (hn:(47:UInt8) ∉ nm):rwsB fx (nm++47::ap)=rwR fx ap nm:=by
 unfold rwsB rwR
 rw[Bool.eq_iff_iff,List.any_eq_true,List.any_eq_true]
 constructor
 ·rintro⟨f,hm,h⟩
  rw[Bool.and_eq_true,decide_eq_true_iff] at h
  obtain⟨e1,e2⟩:=first_unique h.2 (name_47 (fix_name (hf f hm))) hn
  exact⟨f,hm,by rw[h.1,decide_eq_true e1,decide_eq_true e2];rfl⟩
 ·rintro⟨f,hm,h⟩
  rw[Bool.and_eq_true,Bool.and_eq_true,decide_eq_true_iff,decide_eq_true_iff] at h
  exact⟨f,hm,by rw[h.1,decide_eq_true (show fxRef f=nm++47::ap by unfold fxRef;rw[h.2.1,h.2.2])];rfl⟩
def nmdL (fx:List Fx) (p:Prc):List Int:=[if aptB fx p.ap=true then 0 else 6,if (p.pa.all fun x=>rwOkR fx p x)=true then 0 else 6,if (p.pa.all fun x=>x.lg.all fun g=>lgOkB fx g)=true then 0 else 6]
def nmpE (fx:List Fx) (p:Prc):Int:=fstE (nmdL fx p)
def pr1R (fx:List Fx) (l:List Prc) (k:Nat):Int :=
 fstE [prcE (l.getD k pr0),if k=0 then 0 else ordE (cmpP (l.getD k pr0) (l.getD (k-1) pr0)),nmpE fx (l.getD k pr0)]
def dbR (d:DbD):Int :=
 fstE [hdrE d.hd,if 400<d.fx.length∨60<d.aw.length∨60<d.pr.length then 3 else 0,allE (fx1E d.hd.la d.hd.lo d.fx) d.fx.length,allE (aw1E d.fx d.aw) d.aw.length,allE (pr1R d.fx d.pr) d.pr.length]
theorem prc_zero {p:Prc} (h:prcE p=0):(p.kd=1∨p.kd=2∨p.kd=3)∧∀j,j<p.pa.length→pa1E p.kd p.pa j=0:=by
 unfold prcE at h
 have h1:=fstE_all0 h
 constructor
 ·have h2:=h1 (if p.kd=1∨p.kd=2∨p.kd=3 then 0 else 17) (by simp)
  by_cases hk:p.kd=1∨p.kd=2∨p.kd=3
  ·exact hk
  ·rw[if_neg hk] at h2;cases h2
 ·exact allE_zero (h1 (allE (pa1E p.kd p.pa) p.pa.length) (by simp))
theorem pr1R_eq {fx:List Fx} {l:List Prc} {k:Nat} (hf:∀f∈fx,fixE f=0):pr1R fx l k=pr1E fx l k:=by
 unfold pr1R pr1E
 obtain⟨p,hp⟩:∃p,l.getD k pr0=p:=⟨_,rfl⟩
 rw[hp]
 by_cases h0:prcE p=0
 ·have hz:=(prc_zero h0).2
  have hrw:(p.pa.all fun x=>rwOk fx p x)=(p.pa.all fun x=>rwOkR fx p x):=by
   rw[Bool.eq_iff_iff,List.all_eq_true,List.all_eq_true]
   refine forall_congr' fun x=>forall_congr' fun hx => ?_
   obtain⟨i,hi,rfl⟩:=List.getElem_of_mem hx
   have h1:=pa1_nmd hi (hz i hi)
   unfold rwOk rwOkR
   by_cases hk:(p.pa[i]).kd=1
   ·unfold nmdE at h1
    rw[if_pos (.inl hk)] at h1
    have hn:nameB (p.pa[i]).nm 8=true:=by
     cases hc:nameB (p.pa[i]).nm 8
     ·rw[hc] at h1;cases h1
     ·rfl
    rw[rw_eq hf (name_47 hn)]
   ·have:((p.pa[i]).kd != 1)=true:=bne_iff_ne.2 hk
    rw[this];simp
  rw[hrw]
  unfold nmpE nmdL
  rw[h0,fstE_z,fstE_z]
  obtain⟨o,ho⟩:∃o,(if k=0 then 0 else ordE (cmpP p (l.getD (k-1) pr0)))=o:=⟨_,rfl⟩
  rw[ho]
  by_cases h1:o=0
  ·rw[h1,fstE_z,fstE_z]
   obtain⟨N,hN⟩:∃N,fstE [if aptB fx p.ap=true then 0 else 6,if (p.pa.all fun x=>rwOkR fx p x)=true then 0 else 6,if (p.pa.all fun x=>x.lg.all fun g=>lgOkB fx g)=true then 0 else 6]=N:=⟨_,rfl⟩
   rw[hN]
   by_cases h2:N=0
   ·rw[h2];rfl
   ·rw[fstE_n h2]
  ·rw[fstE_n h1,fstE_n h1]
 ·rw[fstE_n h0,fstE_n h0]
theorem fx_zero {la lo:Int} {l:List Fx} (h:allE (fx1E la lo l) l.length=0):∀f∈l,fixE f=0:=by
 intro f hf
 obtain⟨i,hi,rfl⟩:=List.getElem_of_mem hf
 have h1:=allE_zero h i hi
 have h2:=fstE_all0 h1 (fixE (l.getD i fx0)) (by simp)
 rwa [show l.getD i fx0=l[i] from by rw[List.getD_eq_getElem?_getD,List.getElem?_eq_getElem hi];rfl] at h2
theorem dbR_eq (d:DbD):dbR d=dbE d:=by
 unfold dbR dbE
 by_cases h1:hdrE d.hd=0
 ·rw[h1,fstE_z,fstE_z]
  obtain⟨n,hn⟩:∃n:Int,(if 400<d.fx.length∨60<d.aw.length∨60<d.pr.length then 3 else 0)=n:=⟨_,rfl⟩
  rw[hn]
  by_cases h2:n=0
  ·rw[h2,fstE_z,fstE_z]
   by_cases h3:allE (fx1E d.hd.la d.hd.lo d.fx) d.fx.length=0
   ·rw[allE_congr (e:=pr1R d.fx d.pr) (e':=pr1E d.fx d.pr) (fun j _=>pr1R_eq (fx_zero h3))]
   ·rw[fstE_n h3,fstE_n h3]
  ·rw[fstE_n h2,fstE_n h2]
 ·rw[fstE_n h1,fstE_n h1]
set_option maxRecDepth 100000 in
set_option maxHeartbeats 4000000 in
theorem rmonthDays_any (y k:Nat) (w:World) (hy:y<100) (h1:1≤k) (h2:k≤12):Calls Tryz.prog 279 #[.int .i64 (2000+(y:Int)),.int .i64 (k:Int)] w fun e w'=>e=.returned (.int .i64 (mdN y k:Int))∧w=w':=by
 have h:k=1∨k=2∨k=3∨k=4∨k=5∨k=6∨k=7∨k=8∨k=9∨k=10∨k=11∨k=12:=by omega
 have y1:¬2000+(y:Int)<2000:=by omega
 have y2:¬(2099:Int)<2000+(y:Int):=by omega
 have lp:=fun w=>rleap_any y w hy
 clear h1 h2
 rcases h with rfl|rfl|rfl|rfl|rfl|rfl|rfl|rfl|rfl|rfl|rfl|rfl
 case inr.inl =>
  by_cases h0:y%4=0
  ·have HD:Hid (((mdN y 2:Nat):Int)=29):=by unfold Hid mdN;rw[if_pos rfl,if_pos h0];rfl
   rw[decide_eq_true h0] at lp
   clear h0
   go_enter Tryz.func279,Tryz.ntmps279
   go_wp2_with fail
   refine(lp _).mono ?_
   rintro e w1 ⟨rfl,rfl⟩
   go_wp2
   go_ret
   exact⟨ret_int HD.out.symm,rfl⟩
  ·have HD:Hid (((mdN y 2:Nat):Int)=28):=by unfold Hid mdN;rw[if_pos rfl,if_neg h0];rfl
   rw[decide_eq_false h0] at lp
   clear h0
   go_enter Tryz.func279,Tryz.ntmps279
   go_wp2_with fail
   refine(lp _).mono ?_
   rintro e w1 ⟨rfl,rfl⟩
   go_wp2
   go_ret
   exact⟨ret_int HD.out.symm,rfl⟩
 all_goals
  go_enter Tryz.func279,Tryz.ntmps279
  go_wp2
  go_ret
  exact⟨rfl,by first|rfl|trivial⟩
theorem jan_succ (y:Nat):janN (y+1)=janN y+365+(if y%4=0 then 1 else 0):=by
 unfold janN
 by_cases h:y%4=0
 ·rw[if_pos h];omega
 ·rw[if_neg h];omega
theorem cum_succ (y:Nat) {m:Nat} (h:1≤m):cumN y (m+1)=cumN y m+mdN y m:=by
 obtain⟨k,rfl⟩:∃k,m=k+1:=⟨m-1,by omega⟩
 rfl
set_option maxRecDepth 100000 in
set_option maxHeartbeats 4000000 in
theorem rbefore_any (y m:Nat) (w:World) (hy:y<100) (h1:1≤m) (h2:m≤12):Calls Tryz.prog 201 #[.int .i64 (2000+(y:Int)),.int .i64 (m:Int)] w fun e w'=>e=.returned (.int .i64 ((janN y+cumN y m:Nat):Int))∧w=w':=by
 obtain⟨R,hR⟩:∃R,janN y+cumN y m=R:=⟨_,rfl⟩
 have HR:=Lib.hid hR
 rw[hR]
 clear hR
 go_enter Tryz.func201,Tryz.ntmps201
 go_wp2_with fail
 go_loopw [5,6] (fun nv xv wr=>∃j:Nat,j≤y∧nv=.int .i64 (janN j:Int)∧xv=.int .i64 (2000+(j:Int))∧Hid (w=wr)) (fun _ xv _=>y+2000-(intOf xv).toNat)
 case atStart=>exact⟨0,Nat.zero_le _,rfl,rfl,rfl⟩
 case round =>
  obtain⟨j,hj,rfl,rfl,hw⟩:=hrel
  by_cases hlt:j<y
  ·have hji:2000+(j:Int)<2000+(y:Int):=by omega
   have hb:=jan_bd (y:=j) (by omega)
   have hs:=jan_succ j
   by_cases h0:j%4=0
   ·have lp:=fun w=>rleap_any j w (by omega)
    rw[decide_eq_true h0] at lp
    have HS:Hid ((janN (j+1):Int)=(janN j:Int)+365+1):=by unfold Hid;rw[hs,if_pos h0];omega
    obtain⟨J,hJ⟩:∃J,janN j=J:=⟨_,rfl⟩
    rw[hJ] at hb HS ⊢
    clear hs h0 hJ
    go_wp2_with fail
    refine(lp _).mono ?_
    rintro e w1 ⟨rfl,rfl⟩
    clear lp
    go_wp2
    go_roundw
    case rel=>exact⟨j+1,hlt,by rw[HS.out],by go_num,hw⟩
    case measure=>simp[intOf];omega
   ·have lp:=fun w=>rleap_any j w (by omega)
    rw[decide_eq_false h0] at lp
    have HS:Hid ((janN (j+1):Int)=(janN j:Int)+365):=by unfold Hid;rw[hs,if_neg h0];omega
    obtain⟨J,hJ⟩:∃J,janN j=J:=⟨_,rfl⟩
    rw[hJ] at hb HS ⊢
    clear hs h0 hJ
    go_wp2_with fail
    refine(lp _).mono ?_
    rintro e w1 ⟨rfl,rfl⟩
    clear lp
    go_wp2
    go_roundw
    case rel=>exact⟨j+1,hlt,by rw[HS.out],by go_num,hw⟩
    case measure=>simp[intOf];omega
  ·have hji:¬2000+(j:Int)<2000+(y:Int):=by omega
   obtain rfl:j=y:=by omega
   have hb:=jan_bd (y:=j) (by omega)
   obtain⟨J,hJ⟩:∃J,janN j=J:=⟨_,rfl⟩
   have HJ:=Lib.hid hJ
   rw[hJ] at hb ⊢
   clear hJ hlt
   go_wp2_with fail
   go_loopw [5,7] (fun nv xv wr=>∃k:Nat,1≤k∧k≤m∧nv=.int .i64 ((J+cumN j k:Nat):Int)∧xv=.int .i64 (k:Int)∧Hid (w=wr)) (fun _ xv _=>m-(intOf xv).toNat)
   case atStart=>exact⟨1,Nat.le_refl _,h1,rfl,rfl,hw⟩
   case round =>
    obtain⟨k,hk1,hk2,rfl,rfl,hw2⟩:=hrel
    clear hji
    by_cases hkm:k<m
    ·have hki:(k:Int)<(m:Int):=by omega
     have md:=fun w=>rmonthDays_any j k w hy hk1 (by omega)
     have hmb:=md_bd j k
     have hcb:=cum_bd j k (by omega)
     have HS:Hid (((J+cumN j (k+1):Nat):Int)=((J+cumN j k:Nat):Int)+(mdN j k:Int)):=by unfold Hid;rw[cum_succ j hk1];omega
     obtain⟨M,hM⟩:∃M,mdN j k=M:=⟨_,rfl⟩
     obtain⟨C,hC⟩:∃C,J+cumN j k=C:=⟨_,rfl⟩
     have hCb:C≤40000:=by omega
     rw[hM] at md hmb HS
     rw[hC] at HS ⊢
     clear hM hC hcb
     go_wp2_with fail
     refine(md _).mono ?_
     rintro e w1 ⟨rfl,rfl⟩
     clear md
     go_wp2
     go_roundw
     case rel=>exact⟨k+1,by omega,hkm,by rw[HS.out],by go_num,hw2⟩
     case measure=>simp[intOf];omega
    ·have hki:¬(k:Int)<(m:Int):=by omega
     obtain rfl:k=m:=by omega
     have hcb:=cum_bd j k (by omega)
     obtain⟨C,hC⟩:∃C,J+cumN j k=C:=⟨_,rfl⟩
     have hCb:C≤40000:=by omega
     have HCR:Hid (C=R):=by unfold Hid;rw[←hC,←HR.out,←HJ.out]
     rw[hC]
     clear hC hcb
     go_wp2
     go_ret
     exact⟨ret_int (by rw[HCR.out]),hw2.out⟩
set_option maxRecDepth 100000 in
set_option maxHeartbeats 4000000 in
theorem rdate_any (d y:Nat) (w:World) (hd:d≤36524) (hy:y<100) (h1:janN y≤d) (h2:d<janN (y+1)):Calls Tryz.prog 202 #[.int .i64 (d:Int)] w (DatePost y w):=by
 have HPO:=Lib.hid (fun(m dd:Int) (W:World) (h:w=W)=>(⟨m,dd,rfl,h⟩:DatePost y w (.returned (.tuple #[.int .i64 (2000+(y:Int)),.int .i64 m,.int .i64 dd,.int .i64 0])) W))
 have H1:=Lib.hid h1
 have H2:=Lib.hid h2
 clear h1 h2
 go_enter Tryz.func202,Tryz.ntmps202
 go_wp2_with fail
 go_loopw [6] (fun yv wr=>∃j:Nat,j≤y∧yv=.int .i64 (2000+(j:Int))∧Hid (w=wr)) (fun yv _=>2000+y-(intOf yv).toNat)
 case atStart=>exact⟨0,Nat.zero_le _,rfl,rfl⟩
 case round =>
  obtain⟨j,hj,rfl,hw⟩:=hrel
  by_cases hlt:j<y
  ·have hj9:2000+(j:Int)<2099:=by omega
   have bf:=fun w=>rbefore_any (j+1) 1 w (by omega) (by omega) (by omega)
   have hle:((janN (j+1)+cumN (j+1) 1:Nat):Int)≤(d:Int):=by
    have:=jan_mono (show j+1≤y by omega);have:=H1.out
    show((janN (j+1)+0:Nat):Int)≤_
    omega
   obtain⟨C,hC⟩:∃C,janN (j+1)+cumN (j+1) 1=C:=⟨_,rfl⟩
   rw[hC] at bf hle
   have e1:2000+(j:Int)+1=2000+((j+1:Nat):Int):=by omega
   clear hC
   go_wp2_with fail
   try rw[e1]
   refine(bf _).mono ?_
   rintro e w1 ⟨rfl,rfl⟩
   clear bf
   go_wp2
   go_roundw
   case rel=>exact⟨j+1,hlt,by go_num,hw⟩
   case measure=>simp[intOf];omega
  ·obtain rfl:j=y:=by omega
   have hjb:=jan_bd (y:=j) (by omega)
   have HST:Hid (j<99→(d:Int)<((janN (j+1)+cumN (j+1) 1:Nat):Int)):=fun _=>by
    have:=H2.out
    show(d:Int)<((janN (j+1)+0:Nat):Int)
    omega
   have HBF:=Lib.hid (fun(h:j<99)=>fun w=>rbefore_any (j+1) 1 w (by omega) (by omega) (by omega))
   clear hlt
   have key:∀W,Calls Tryz.prog 201 #[.int .i64 (2000+(j:Int)),.int .i64 1] W fun e w'=>e=.returned (.int .i64 ((janN j+cumN j 1:Nat):Int))∧W=w':=fun W=>rbefore_any j 1 W hy (by omega) (by omega)
   clear key
   by_cases h99:j<99
   ·have hj9:2000+(j:Int)<2099:=by omega
    have bf:=HBF.out h99
    have hle:=HST.out h99
    obtain⟨C,hC⟩:∃C,janN (j+1)+cumN (j+1) 1=C:=⟨_,rfl⟩
    rw[hC] at bf hle
    have hle2:decide (C≤d)=false:=decide_eq_false (by omega)
    have e1:2000+(j:Int)+1=2000+((j+1:Nat):Int):=by omega
    clear hC h99 hle
    go_wp2_with fail
    try rw[e1]
    refine(bf _).mono ?_
    rintro e w1 ⟨rfl,rfl⟩
    clear bf e1
    go_wp2_with fail
    clear hle2
    go_loopw [7] (fun mv wr=>∃k:Nat,1≤k∧k≤12∧mv=.int .i64 (k:Int)∧Hid (w=wr)) (fun mv _=>13-(intOf mv).toNat)
    case atStart=>exact⟨1,by omega,by omega,by first|rfl|go_num,hw⟩
    case round =>
     obtain⟨k,hk1,hk2,rfl,hw2⟩:=hrel
     clear hj9
     have BK:=Lib.hid (fun w=>rbefore_any j k w hy hk1 hk2)
     have hcb:=cum_bd j k hk2
     obtain⟨B,hB⟩:∃B,janN j+cumN j k=B:=⟨_,rfl⟩
     have hBb:B≤40000:=by omega
     rw[hB] at BK
     clear hB hcb
     by_cases hk12:k<12
     ·have hki:(k:Int)<12:=by omega
      have bm:=fun w=>rbefore_any j (k+1) w hy (by omega) (by omega)
      obtain⟨C,hC⟩:∃C,janN j+cumN j (k+1)=C:=⟨_,rfl⟩
      rw[hC] at bm
      have E2:Hid ((k:Int)+1=((k+1:Nat):Int)):=by unfold Hid;omega
      by_cases hle0:C≤d
      ·have hle:decide (C≤d)=true:=decide_eq_true hle0
       clear hC hle0
       go_wp2_with fail
       rw[E2.out]
       refine(bm _).mono ?_
       rintro e w1 ⟨rfl,rfl⟩
       clear bm E2
       go_wp2
       go_roundw
       case rel=>exact⟨k+1,by omega,by omega,by first|rfl|go_num,hw2⟩
       case measure=>simp[intOf];omega
      ·have hle:decide (C≤d)=false:=decide_eq_false hle0
       clear hC hle0
       go_wp2_with fail
       rw[E2.out]
       refine(bm _).mono ?_
       rintro e w1 ⟨rfl,rfl⟩
       clear bm E2
       go_wp2_with fail
       refine(BK.out _).mono ?_
       rintro e w1 ⟨rfl,rfl⟩
       go_wp2
       exact bodyPost_ret (v:=.tuple #[.int .i64 (2000+(j:Int)),.int .i64 (k:Int),.int .i64 ((d:Int)-(B:Int)+1),.int .i64 0]) (by simp[results,Tryz.results202,go_sem]) rfl (HPO.out _ _ _ hw2.out)
     ·have hki:¬(k:Int)<12:=by omega
      go_wp2_with fail
      refine(BK.out _).mono ?_
      rintro e w1 ⟨rfl,rfl⟩
      go_wp2
      exact bodyPost_ret (v:=.tuple #[.int .i64 (2000+(j:Int)),.int .i64 (k:Int),.int .i64 ((d:Int)-(B:Int)+1),.int .i64 0]) (by simp[results,Tryz.results202,go_sem]) rfl (HPO.out _ _ _ hw2.out)
   ·have hj9:decide (2000+(j:Int)<2099)=false:=decide_eq_false (by omega)
    clear h99
    go_wp2_with fail
    go_loopw [7] (fun mv wr=>∃k:Nat,1≤k∧k≤12∧mv=.int .i64 (k:Int)∧Hid (w=wr)) (fun mv _=>13-(intOf mv).toNat)
    case atStart=>exact⟨1,by omega,by omega,by first|rfl|go_num,hw⟩
    case round =>
     obtain⟨k,hk1,hk2,rfl,hw2⟩:=hrel
     clear hj9
     have BK:=Lib.hid (fun w=>rbefore_any j k w hy hk1 hk2)
     have hcb:=cum_bd j k hk2
     obtain⟨B,hB⟩:∃B,janN j+cumN j k=B:=⟨_,rfl⟩
     have hBb:B≤40000:=by omega
     rw[hB] at BK
     clear hB hcb
     by_cases hk12:k<12
     ·have hki:(k:Int)<12:=by omega
      have bm:=fun w=>rbefore_any j (k+1) w hy (by omega) (by omega)
      obtain⟨C,hC⟩:∃C,janN j+cumN j (k+1)=C:=⟨_,rfl⟩
      rw[hC] at bm
      have E2:Hid ((k:Int)+1=((k+1:Nat):Int)):=by unfold Hid;omega
      by_cases hle0:C≤d
      ·have hle:decide (C≤d)=true:=decide_eq_true hle0
       clear hC hle0
       go_wp2_with fail
       rw[E2.out]
       refine(bm _).mono ?_
       rintro e w1 ⟨rfl,rfl⟩
       clear bm E2
       go_wp2
       go_roundw
       case rel=>exact⟨k+1,by omega,by omega,by first|rfl|go_num,hw2⟩
       case measure=>simp[intOf];omega
      ·have hle:decide (C≤d)=false:=decide_eq_false hle0
       clear hC hle0
       go_wp2_with fail
       rw[E2.out]
       refine(bm _).mono ?_
       rintro e w1 ⟨rfl,rfl⟩
       clear bm E2
       go_wp2_with fail
       refine(BK.out _).mono ?_
       rintro e w1 ⟨rfl,rfl⟩
       go_wp2
       exact bodyPost_ret (v:=.tuple #[.int .i64 (2000+(j:Int)),.int .i64 (k:Int),.int .i64 ((d:Int)-(B:Int)+1),.int .i64 0]) (by simp[results,Tryz.results202,go_sem]) rfl (HPO.out _ _ _ hw2.out)
     ·have hki:¬(k:Int)<12:=by omega
      go_wp2_with fail
      refine(BK.out _).mono ?_
      rintro e w1 ⟨rfl,rfl⟩
      go_wp2
      exact bodyPost_ret (v:=.tuple #[.int .i64 (2000+(j:Int)),.int .i64 (k:Int),.int .i64 ((d:Int)-(B:Int)+1),.int .i64 0]) (by simp[results,Tryz.results202,go_sem]) rfl (HPO.out _ _ _ hw2.out)
set_option maxRecDepth 100000 in
set_option maxHeartbeats 4000000 in
theorem rdate_out (d:Nat) (w:World) (hd:36524<d) (hd2:d≤50000):Calls Tryz.prog 202 #[.int .i64 (d:Int)] w fun e w'=>e=.returned (.tuple #[.int .i64 0,.int .i64 0,.int .i64 0,.int .i64 2])∧w=w':=by
 have h1:¬(d:Int)<0:=by omega
 have h2:(36524:Int)<(d:Int):=by omega
 go_enter Tryz.func202,Tryz.ntmps202
 go_wp2
 exact bodyPost_ret (v:=.tuple #[.int .i64 0,.int .i64 0,.int .i64 0,.int .i64 2]) (by simp[results,Tryz.results202,go_sem]) rfl ⟨rfl,rfl⟩
set_option maxRecDepth 100000 in
set_option maxHeartbeats 4000000 in
theorem rcycleDays_post (n:Int) (w:World):Calls Tryz.prog 126 #[.int .i64 n] w (CdPost n w):=by
 have HP:=Lib.hid (fun(f t er:Int) (h:cdE n=er∧cdF n=f∧cdT n=t) (W:World) (hW:w=W)=>CdPost.mk (w:=w) (w':=W) h hW)
 by_cases hlo:n<0
 ·have HO:=Lib.hid (cd_out (.inl hlo))
  go_enter Tryz.func126,Tryz.ntmps126
  go_wp2
  go_ret3
  exact HP.out _ _ _ HO.out _ rfl
 by_cases hhi:9999<n
 ·have HO:=Lib.hid (cd_out (.inr hhi))
  go_enter Tryz.func126,Tryz.ntmps126
  go_wp2
  go_ret3
  exact HP.out _ _ _ HO.out _ rfl
 obtain⟨y,k,hy,hk,rfl⟩:∃y k:Nat,y<100∧k<100∧n=((100*y+k:Nat):Int):=⟨n.toNat/100,n.toNat%100,by omega,by omega,by omega⟩
 have HN:=Lib.hid (@cd_not y k hk hy)
 have HS:=Lib.hid (@cd_of y k hk hy)
 have e1:((100*y+k:Nat):Int)/100=(y:Int):=by omega
 have e2:((100*y+k:Nat):Int).tdiv 100=(y:Int):=by rw[Int.tdiv_eq_ediv_of_nonneg (by omega)];omega
 have e3:((100*y+k:Nat):Int)%100=(k:Int):=by omega
 have e4:((100*y+k:Nat):Int).tmod 100=(k:Int):=by rw[Int.tmod_eq_emod_of_nonneg (by omega)];omega
 obtain⟨nn,hnn⟩:∃x,((100*y+k:Nat):Int)=x:=⟨_,rfl⟩
 rw[hnn] at hlo hhi HP HN HS e1 e2 e3 e4
 rw[hnn]
 have bf:∀w,Calls Tryz.prog 201 #[.int .i64 (2000+(y:Int)),.int .i64 1] w fun e w'=>e=.returned (.int .i64 (janN y:Int))∧w=w':=fun w=>rbefore_any y 1 w hy (by omega) (by omega)
 have hfb:=fst_bd y
 have hjb:=jan_bd (y:=y) (by omega)
 have hXb:=cdX_bd hy hk
 have HFL:=Lib.hid (fun(a:Nat) (h1:janN y≤a) (h2:a%28=26) (h3:26≤a)=>fst_le h1 h2 h3)
 obtain⟨J,hJ⟩:∃J,janN y=J:=⟨_,rfl⟩
 obtain⟨F,hF⟩:∃F,fstN y=F:=⟨_,rfl⟩
 have HXE:Hid (1≤k→(cdX y k:Int)=(F:Int)+28*((k:Int)-1)):=fun h=>by unfold cdX;rw[hF];omega
 have HXF:=Lib.hid (fun h=>@cdX_facts y k h)
 obtain⟨X,hX⟩:∃X,cdX y k=X:=⟨_,rfl⟩
 rw[hX] at HN HS hXb HXE HXF
 have HJ:=Lib.hid hJ
 rw[hJ] at hjb bf hfb HFL HXF
 rw[hF] at hfb HFL
 clear hnn hJ hF hX
 go_enter Tryz.func126,Tryz.ntmps126
 go_wp2_with fail
 refine(bf _).mono ?_
 rintro e w1 ⟨rfl,rfl⟩
 go_wp2_with fail
 clear bf
 go_loopw [7] (fun fv wr=>∃a:Nat,a≤F∧26≤a∧a%28=26∧fv=.int .i64 (a:Int)∧Hid (w=wr)) (fun fv _=>50000-(intOf fv).toNat)
 case atStart=>exact⟨26,by omega,by omega,by omega,by first|rfl|go_num,rfl⟩
 case round =>
  obtain⟨a,haF,ha26,ham,rfl,hw⟩:=hrel
  by_cases hlt:a<J
  ·have hli:(a:Int)<(J:Int):=by omega
   go_wp2
   go_roundw
   case rel=>exact⟨a+28,by omega,by omega,by omega,by go_num,hw⟩
   case measure=>simp[intOf];omega
  ·have hli:¬(a:Int)<(J:Int):=by omega
   obtain rfl:a=F:=by have:=HFL.out a (by omega) ham ha26;omega
   clear hlt haF
   rcases Nat.eq_zero_or_pos k with h0|h0
   ·have HO:=Lib.hid (HN.out (.inl h0))
    have k1:(k:Int)<1:=by omega
    clear h0
    go_wp2
    go_ret3
    exact HP.out _ _ _ HO.out _ hw.out
   ·have k1:¬(k:Int)<1:=by omega
    have HXX:Hid ((a:Int)+28*((k:Int)-1)=(X:Int)):=(HXE.out h0).symm
    obtain⟨f1,f2,f3⟩:=HXF.out h0
    have HYE:Hid ((2000+(y:Int) != 2000+(y:Int))=false):=by unfold Hid;simp
    by_cases h1:X≤36524
    ·obtain⟨z,hz,hz1,hz2⟩:=year_of X h1
     have dt:=fun w=>rdate_any X z w h1 hz hz1 hz2
     by_cases hzy:z=y
     ·have HO:=Lib.hid (HS.out h0 (by rw[←hzy];exact hz2))
      rw[hzy] at dt
      have ye:=HYE.out
      clear hz hz1 hz2 hzy f1 f2 f3 h0
      go_upto_region 11 with fail
      rw[HXX.out]
      go_wp2_with fail
      refine(dt _).mono ?_
      rintro e w1 ⟨m,dd,rfl,rfl⟩
      clear dt
      go_wp2
      go_ret3
      exact HP.out _ _ _ HO.out _ hw.out
     ·have hge:janN (y+1)≤X:=by
       rcases Nat.lt_or_ge X (janN (y+1)) with h|h
       ·exact absurd (year_uniq hz1 hz2 (by rw[HJ.out];exact f3) h) hzy
       ·exact h
      have HO:=Lib.hid (HN.out (.inr hge))
      have ye:(2000+(z:Int) != 2000+(y:Int))=true:=bne_iff_ne.2 (by omega)
      clear hz hz1 hz2 hzy f1 f2 f3 h0 hge
      go_upto_region 11 with fail
      rw[HXX.out]
      go_wp2_with fail
      refine(dt _).mono ?_
      rintro e w1 ⟨m,dd,rfl,rfl⟩
      clear dt
      go_wp2
      go_ret3
      exact HP.out _ _ _ HO.out _ hw.out
    ·have HO:=Lib.hid (HN.out (.inr (by have:=jan_bd (y:=y+1) (by omega);omega)))
     have dt:=fun w=>rdate_out X w (by omega) (by omega)
     clear f1 f2 f3 h0 h1
     go_upto_region 11 with fail
     rw[HXX.out]
     go_wp2_with fail
     refine(dt _).mono ?_
     rintro e w1 ⟨rfl,rfl⟩
     clear dt
     go_wp2
     go_ret3
     exact HP.out _ _ _ HO.out _ hw.out
theorem rcycleDays_any (n:Int) (w:World):Calls Tryz.prog 126 #[.int .i64 n] w fun e w'=>e=.returned (.tuple #[.int .i64 (cdF n),.int .i64 (cdT n),.int .i64 (cdE n)])∧w=w':=rcycleDays_post n w
theorem hdrR_nm {h:ImHd} (h1:nameB h.nm 8=false):hdrE h=5:=by unfold hdrE;rw[if_pos h1]
theorem hdrR_cd {h:ImHd} (h1:nameB h.nm 8=true) (h2:cdE h.cy≠0):hdrE h=cdE h.cy:=by unfold hdrE;rw[if_neg (by simp[h1]),if_pos h2]
theorem hdrR_cy {h:ImHd} (h1:nameB h.nm 8=true) (h2:cdE h.cy=0) (h3:h.fr≠cdF h.cy∨h.tu≠cdT h.cy):hdrE h=13:=by unfold hdrE;rw[if_neg (by simp[h1]),if_neg (by simp[h2]),if_pos h3]
theorem hdrR_to {h:ImHd} (h1:nameB h.nm 8=true) (h2:cdE h.cy=0) (h3:h.fr=cdF h.cy) (h4:h.tu=cdT h.cy):hdrE h=toE h.la h.lo h.la h.lo:=by unfold hdrE;rw[if_neg (by simp[h1]),if_neg (by simp[h2]),if_neg (by simp[h3,h4])]
set_option maxRecDepth 100000 in
set_option maxHeartbeats 8000000 in
theorem rheader_any (h:ImHd) (w:World) (hn:h.nm.length≤maxLen) :
  Calls Tryz.prog 49 #[.agg (hdD h).toArray] w fun e w'=>e=.returned (.int .i64 (hdrE h))∧Below w.heap.size w w':=by
 have H1:=Lib.hid (@hdrR_nm h)
 have H2:=Lib.hid (@hdrR_cd h)
 have H3:=Lib.hid (@hdrR_cy h)
 have H4:=Lib.hid (@hdrR_to h)
 obtain⟨x,hx⟩:∃x,hdrE h=x:=⟨_,rfl⟩
 rw[hx] at H1 H2 H3 H4
 rw[hx]
 clear hx
 obtain⟨nm,cy,fr,tu,la,lo⟩:=h
 simp only at H1 H2 H3 H4 hn
 unfold hdD
 simp only
 have nmA:=fun w=>rname_any (sb nm) 8 w hn
 rw[bl_sb] at nmA
 have cd:=fun w=>rcycleDays_any cy w
 have tto:=fun w=>rTo_any la lo la lo w
 obtain⟨nb,hnb⟩:∃x,nameB nm 8=x:=⟨_,rfl⟩
 obtain⟨ce,hce⟩:∃x,cdE cy=x:=⟨_,rfl⟩
 obtain⟨cf,hcf⟩:∃x,cdF cy=x:=⟨_,rfl⟩
 obtain⟨ct,hct⟩:∃x,cdT cy=x:=⟨_,rfl⟩
 obtain⟨te,hte⟩:∃x,toE la lo la lo=x:=⟨_,rfl⟩
 obtain⟨⟨tx,ty⟩,htp⟩:∃x,toP la lo la lo=x:=⟨_,rfl⟩
 rw[hnb] at nmA H1 H2 H3 H4
 rw[hce,hcf,hct] at cd
 rw[hce] at H2 H3 H4
 rw[hcf,hct] at H3 H4
 rw[hte,htp] at tto
 rw[hte] at H4
 simp only at tto
 clear hnb hce hcf hct hte htp hn
 obtain⟨w0,hw0⟩:∃W,w.alloc (.cells #[.string (sb nm),.int .i64 cy,.int .i64 fr,.int .i64 tu,.int .i64 la,.int .i64 lo] 25)=W:=⟨_,rfl⟩
 have B0:Hid (Below w.heap.size w w0):=by rw[←hw0];exact(Below.refl _ _).alloc (Nat.le_refl _) _
 have X0:Hid (Bx w.heap.size #[.string (sb nm),.int .i64 cy,.int .i64 fr,.int .i64 tu,.int .i64 la,.int .i64 lo] 25 w0):=by rw[←hw0];exact Bx.last w _ _
 have x0:=X0.out.cell 0 (u:=.string (sb nm)) rfl
 have x1:=X0.out.cell 1 (u:=.int .i64 cy) rfl
 have x2:=X0.out.cell 2 (u:=.int .i64 fr) rfl
 have x3:=X0.out.cell 3 (u:=.int .i64 tu) rfl
 have x4:=X0.out.cell 4 (u:=.int .i64 la) rfl
 have x5:=X0.out.cell 5 (u:=.int .i64 lo) rfl
 have HW0:=Lib.hid hw0
 clear hw0
 go_enter Tryz.func49,Tryz.ntmps49
 go_wp2_with fail
 rw[HW0.out]
 clear HW0
 refine(nmA _).mono ?_
 rintro e w1 ⟨rfl,rfl⟩
 cases nb with
 | false =>
  go_wp2
  go_ret
  exact⟨ret_int (H1.out (by trivial)).symm,B0.out⟩
 | true =>
  go_wp2_with fail
  refine(cd _).mono ?_
  rintro e w1 ⟨rfl,rfl⟩
  by_cases h0:ce=0
  ·subst h0
   by_cases h1:fr=cf
   ·by_cases h2:tu=ct
    ·have e1:(cf != fr)=false:=by simp[h1]
     have e2:(ct != tu)=false:=by simp[h2]
     have HE:=Lib.hid (H4.out (by trivial) (by trivial) h1 h2)
     clear h1 h2
     go_wp2_with fail
     refine(tto _).mono ?_
     rintro e w1 ⟨rfl,hb1⟩
     have B1:=Lib.hid (Below.then_ B0.out hb1)
     clear hb1 B0 X0 x0 x1 x2 x3 x4 x5
     go_wp2
     go_ret
     exact⟨ret_int HE.out.symm,B1.out⟩
    ·have e1:(cf != fr)=false:=by simp[h1]
     have e2:(ct != tu)=true:=bne_iff_ne.2 (fun e=>h2 e.symm)
     have HE:=Lib.hid (H3.out (by trivial) (by trivial) (.inr h2))
     clear h1 h2
     go_wp2
     go_ret
     exact⟨ret_int HE.out.symm,B0.out⟩
   ·have e1:(cf != fr)=true:=bne_iff_ne.2 (fun e=>h1 e.symm)
    have HE:=Lib.hid (H3.out (by trivial) (by trivial) (.inl h1))
    clear h1
    go_wp2
    go_ret
    exact⟨ret_int HE.out.symm,B0.out⟩
  ·have e0:(ce != 0)=true:=bne_iff_ne.2 h0
   have HE:=Lib.hid (H2.out (by trivial) h0)
   clear h0
   go_wp2
   go_ret
   exact⟨ret_int HE.out.symm,B0.out⟩
end Go.Proofs.YtgmehlgfilpleaaGreatDoor
