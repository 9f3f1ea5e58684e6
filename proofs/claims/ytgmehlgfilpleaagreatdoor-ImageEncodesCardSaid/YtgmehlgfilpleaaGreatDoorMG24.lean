/-
  Several texts as one.
-/
import Derived.Test.YtgmehlgfilpleaaGreatDoorMG19
import Derived.Test.YtgmehlgfilpleaaGreatDoorMG07
import Derived.Test.YtgmehlgfilpleaaGreatDoorMG22
import Derived.Test.YtgmehlgfilpleaaGreatDoorMG04
namespace Go.Proofs.YtgmehlgfilpleaaGreatDoor
open Go.RowKit
set_option linter.unusedVariables false
set_option linter.unusedSimpArgs false
theorem fstE_zero:∀{l:List Int},fstE l=0→∀e∈l,e=0
 | [],_,e,he=>by cases he
 | x::t,h,e,he=>by
  by_cases hx:x=0
  ·subst hx
   rw[fstE_z] at h
   rcases List.mem_cons.1 he with rfl|he
   ·rfl
   ·exact fstE_zero h e he
  ·rw[fstE_n hx] at h;exact absurd h hx
theorem nameBb_len {l:List UInt8} {n:Int} (h:nameB l n=true):(l.length:Int)≤n:=by
 unfold nameB at h
 simp only[Bool.and_eq_true,decide_eq_true_eq] at h
 exact h.1.1.2
theorem shortB_two {l:List UInt8} (h:shortB l=true):l.length=2:=by
 unfold shortB at h
 simp only[Bool.and_eq_true,beq_iff_eq] at h
 exact h.1
theorem cutAt_len3 (c:UInt8):∀(l:List UInt8),l.length≤(cutAt c l).1.length+1+(cutAt c l).2.1.length
 | []=>by simp[cutAt]
 | x::l=>by
  have ih:=cutAt_len3 c l
  unfold cutAt
  split
  ·show(x::l).length≤([]:List UInt8).length+1+l.length
   rw[List.length_cons,List.length_nil];omega
  ·show(x::l).length≤(x::(cutAt c l).1).length+1+(cutAt c l).2.1.length
   rw[List.length_cons,List.length_cons];omega
theorem refErrB_len {l:List UInt8} (h:refErr l=0):l.length≤13:=by
 unfold refErr at h
 split at h
 ·split at h
  ·rename_i hr
   unfold refB at hr
   simp only[Bool.and_eq_true,Bool.or_eq_true] at hr
   obtain⟨h1,h2⟩:=hr
   have a1:=nameBb_len h1
   have a2:(cutAt 47 l).2.1.length≤6:=by
    rcases h2 with h2|h2
    ·have:=nameBb_len h2;omega
    ·have:=shortB_two h2;omega
   have:=cutAt_len3 47 l
   omega
  ·cases h
 ·cases h
theorem refC_len {l:List UInt8} {u:Bool} (h:refC l u=0):l.length≤13:=by
 unfold refC at h
 split at h
 ·split at h
  ·rename_i hr;exact refErrB_len hr
  ·cases h
 ·split at h
  ·omega
  ·cases h
def I64 (n:Int):Prop := -9223372036854775808≤n∧n≤9223372036854775807
structure LgB (g:Lg):Prop where
 fi:g.fi.length≤255
 ce:g.ce.length≤255
 ty:g.ty<256
 tn:g.tn<256
 cr:I64 g.cr
 ds:I64 g.ds
 ra:I64 g.ra
 th:I64 g.th
 lo:I64 g.lo
 hi:I64 g.hi
 sp:I64 g.sp
 rn:I64 g.rn
structure PaB (x:Pa):Prop where
 nm:x.nm.length≤255
 kd:x.kd<256
 n:x.lg.length<65536
 lg:∀g∈x.lg,LgB g
structure PrB (p:Prc):Prop where
 ap:p.ap.length≤255
 nm:p.nm.length≤255
 kd:p.kd<256
 n:p.pa.length<65536
 pa:∀x∈p.pa,PaB x
structure PtB (p:Pt):Prop where
 ref:p.ref.length≤255
 lo:I64 p.lo
 hi:I64 p.hi
 dir:p.dir<256
structure AwBd (a:AwD):Prop where
 nm:a.nm.length≤255
 n:a.ps.length<65536
 ps:∀p∈a.ps,PtB p
structure FxB (f:Fx):Prop where
 id:f.id.length≤255
 rg:f.rg.length≤255
 kd:f.kd<256
 la:I64 f.lat
 lo:I64 f.lon
 el:I64 f.el
 ra:I64 f.ra
structure DbB (d:DbD):Prop where
 nm:d.hd.nm.length≤255
 cy:I64 d.hd.cy
 fr:I64 d.hd.fr
 tu:I64 d.hd.tu
 la:I64 d.hd.la
 lo:I64 d.hd.lo
 nf:d.fx.length<65536
 na:d.aw.length<65536
 np:d.pr.length<65536
 fx:∀f∈d.fx,FxB f
 aw:∀a∈d.aw,AwBd a
 pr:∀p∈d.pr,PrB p
theorem getD_mem {α : Type} {l:List α} {a d : α} (h:a∈l):∃k,k<l.length∧l.getD k d=a:=by
 obtain⟨k,hk,rfl⟩:=List.getElem_of_mem h
 exact⟨k,hk,by rw[List.getD_eq_getElem?_getD,List.getElem?_eq_getElem hk];rfl⟩
theorem ptErr_b {l:List Pt} {p:Pt} {i:Nat} (h:ptErr l p i=0):PtB p:=by
 unfold ptErr at h
 split at h
 ·rename_i hr
  have h1:=refErrB_len hr
  split at h
  ·cases h
  ·split at h
   ·split at h
    ·rename_i hl
     unfold lastOk at hl
     simp only[Bool.and_eq_true,decide_eq_true_eq] at hl
     obtain⟨⟨e1,e2⟩,e3⟩:=hl
     exact⟨by omega,by unfold I64;omega,by unfold I64;omega,by omega⟩
    ·cases h
   ·split at h
    ·rename_i hw
     unfold winOk at hw
     simp only[Bool.and_eq_true,decide_eq_true_eq] at hw
     obtain⟨⟨e1,e2⟩,e3⟩:=hw
     split at h
     ·cases h
     ·exact⟨by omega,by unfold I64;omega,by unfold I64;omega,by omega⟩
    ·cases h
 ·cases h
theorem chkFrom_pts:∀(r:List Pt) (l:List Pt) (i:Nat),chkFrom l i r=0→∀p∈r,PtB p
 | [],_,_,_,p,hp=>by cases hp
 | q::r,l,i,h,p,hp=>by
  unfold chkFrom at h
  split at h
  ·rename_i h0
   rcases List.mem_cons.1 hp with rfl|hp
   ·exact ptErr_b h0
   ·exact chkFrom_pts r l (i+1) h p hp
  ·rename_i h0;exact absurd h h0
theorem chkA_b {nm:List UInt8} {l:List Pt} (h:chkA nm l=0):AwBd ⟨nm,l⟩:=by
 unfold chkA at h
 split at h
 ·rename_i hn
  have:=nameBb_len hn
  split at h
  ·cases h
  ·split at h
   ·cases h
   ·exact⟨by show nm.length≤255;omega,by show l.length<65536;omega,fun p hp=>chkFrom_pts _ _ _ h p hp⟩
 ·cases h
theorem fixE_b {f:Fx} (h:fixE f=0):FxB f:=by
 unfold fixE at h
 split at h
 ·cases h
 ·rename_i h0
  split at h
  ·cases h
  ·rename_i h1
   split at h
   ·cases h
   ·rename_i h2
    have g1:identE f.id f.kd=0:=Classical.byContradiction h1
    have g2:locE f.rg f.kd=0:=Classical.byContradiction h2
    unfold identE at g1
    unfold locE at g2
    split at h
    ·cases h
    ·rename_i h3
     have hp:posB f.lat f.lon=true:=by simpa using h3
     have hla:I64 f.lat∧I64 f.lon:=by
      unfold posB latB lonB at hp
      simp only[Bool.and_eq_true,decide_eq_true_eq] at hp
      unfold I64;omega
     have hel:I64 f.el∧I64 f.ra:=by
      split at h
      ·rename_i h4;exact absurd h h4
      ·rename_i h4
       have g4:elE f.kd f.el=0:=Classical.byContradiction h4
       unfold elE at g4
       unfold raE at h
       constructor
       ·split at g4
        ·split at g4
         ·cases g4
         ·unfold I64;omega
        ·split at g4
         ·unfold I64;omega
         ·cases g4
       ·split at h
        ·split at h
         ·cases h
         ·unfold I64;omega
        ·split at h
         ·unfold I64;omega
         ·cases h
     refine⟨?_,?_,by omega,hla.1,hla.2,hel.1,hel.2⟩
     ·split at g1
      ·rename_i hh
       simp only[Bool.and_eq_true] at hh
       have:=nameBb_len hh.1;omega
      ·cases g1
     ·split at g2
      ·rename_i hh
       simp only[Bool.or_eq_true,Bool.and_eq_true] at hh
       rcases hh with hh|hh
       ·have:=nameBb_len hh.2;omega
       ·have:=shortB_two hh.2;omega
      ·cases g2
theorem numC_b {n lo hi:Int} {u:Bool} (h:numC n u lo hi=0) (h1:0≤lo∧hi≤1000000000):I64 n:=by
 unfold numC at h
 split at h
 ·split at h
  ·cases h
  ·unfold I64;omega
 ·split at h
  ·unfold I64;omega
  ·cases h
theorem legE_b {g:Lg} (h:legE g=0):LgB g:=by
 unfold legE at h
 split at h
 ·cases h
 ·rename_i ht
  have hz:=fstE_zero h
  have a1:=hz (refC g.fi (bitU (legU g.ty) 1)) (by simp)
  have a2:=hz (refC g.ce (bitU (legU g.ty) 2)) (by simp)
  have a3:=hz (turnE (legU g.ty) g.tn) (by simp)
  have a5:=hz (numC g.cr (bitU (legU g.ty) 16) 0 129599999) (by simp)
  have a6:=hz (numC g.ds (bitU (legU g.ty) 32) 1 2000000) (by simp)
  have a7:=hz (numC g.ra (bitU (legU g.ty) 64) 1 2000000) (by simp)
  have a8:=hz (numC g.th (bitU (legU g.ty) 128) 0 129599999) (by simp)
  have a9:=hz (altE g.ty g.lo g.hi) (by simp)
  have b0:=hz (spdE g.sp g.rn) (by simp)
  have c1:=refC_len a1
  have c2:=refC_len a2
  have c3:g.tn<256:=by
   unfold turnE at a3
   split at a3
   ·split at a3
    ·omega
    ·cases a3
   ·split at a3
    ·omega
    ·cases a3
  have c9:I64 g.lo∧I64 g.hi:=by
   unfold altE at a9
   split at a9
   ·cases a9
   ·unfold I64;omega
  have d0:I64 g.sp∧I64 g.rn:=by
   unfold spdE at b0
   split at b0
   ·cases b0
   ·unfold I64;omega
  exact⟨by omega,by omega,by omega,c3,numC_b a5 (by omega),numC_b a6 (by omega),numC_b a7 (by omega),numC_b a8 (by omega),c9.1,c9.2,d0.1,d0.2⟩
theorem nmdE_b {x:Pa} (h:nmdE x=0):x.nm.length≤13:=by
 unfold nmdE at h
 split at h
 ·split at h
  ·rename_i hn;have:=nameBb_len hn;omega
  ·cases h
 ·split at h
  ·rename_i hn;rw[hn];simp
  ·cases h
theorem kndL_b {k x:Nat} (h:x∈kndL k):x<256:=by
 unfold kndL at h
 split at h
 ·simp at h;omega
 ·split at h
  ·simp at h;omega
  ·split at h
   ·simp at h;omega
   ·simp at h
theorem prcE_b {p:Prc} (h:prcE p=0):PrB p:=by
 unfold prcE at h
 have hz:=fstE_zero h
 have h1:=hz _ (List.mem_cons_self ..)
 have h2:=hz _ (List.mem_cons_of_mem _ (List.mem_cons_self ..))
 have h3:=hz _ (List.mem_cons_of_mem _ (List.mem_cons_of_mem _ (List.mem_cons_self ..)))
 have h4:=hz _ (List.mem_cons_of_mem _ (List.mem_cons_of_mem _ (List.mem_cons_of_mem _ (List.mem_cons_self ..))))
 have hk:p.kd<256:=by
  split at h2
  ·omega
  ·cases h2
 split at h1
 ·rename_i hn
  simp only[Bool.and_eq_true] at hn
  have a1:=nameBb_len hn.1
  have a2:=nameBb_len hn.2
  split at h3
  ·cases h3
  ·refine⟨by omega,by omega,hk,by omega,fun x hx => ?_⟩
   obtain⟨i,hi,hix⟩:=getD_mem (d:=pa0) hx
   have h5:=allE_zero h4 i hi
   unfold pa1E at h5
   rw[hix] at h5
   have hy:=fstE_zero h5
   have b1:=hy _ (List.mem_cons_self ..)
   have b3:=hy _ (List.mem_cons_of_mem _ (List.mem_cons_of_mem _ (List.mem_cons_self ..)))
   have b4:=hy _ (List.mem_cons_of_mem _ (List.mem_cons_of_mem _ (List.mem_cons_of_mem _ (List.mem_cons_self ..))))
   have b5:=hy _ (List.mem_cons_of_mem _ (List.mem_cons_of_mem _ (List.mem_cons_of_mem _ (List.mem_cons_of_mem _ (List.mem_cons_self ..)))))
   have bk:x.kd<256:=by
    split at b1
    ·rename_i hm;exact kndL_b hm
    ·cases b1
   have:=nmdE_b b3
   refine⟨by omega,bk,?_,fun g hg => ?_⟩
   ·split at b4
    ·omega
    ·split at b4
     ·cases b4
     ·omega
   ·obtain⟨j,hj,hjg⟩:=getD_mem (d:=lg0) hg
    have h6:=allE_zero b5 j hj
    unfold lg1E at h6
    rw[hjg] at h6
    exact legE_b (fstE_zero h6 _ (List.mem_cons_self ..))
 ·cases h1
theorem cdX_i {n:Int} (h:0≤n∧n≤9999):0≤cdF n∧cdF n≤1000000∧0≤cdT n∧cdT n≤2000000:=by
 have hb:cdX (n.toNat/100) (n.toNat%100)≤1000000:=by unfold cdX fstN janN;split <;> omega
 unfold cdF cdT
 split <;> omega
theorem dbE_b {d:DbD} (h:dbE d=0):DbB d:=by
 unfold dbE at h
 have hz:=fstE_zero h
 have h1:=hz _ (List.mem_cons_self ..)
 have h2:=hz _ (List.mem_cons_of_mem _ (List.mem_cons_self ..))
 have h3:=hz _ (List.mem_cons_of_mem _ (List.mem_cons_of_mem _ (List.mem_cons_self ..)))
 have h4:=hz _ (List.mem_cons_of_mem _ (List.mem_cons_of_mem _ (List.mem_cons_of_mem _ (List.mem_cons_self ..))))
 have h5:=hz _ (List.mem_cons_of_mem _ (List.mem_cons_of_mem _ (List.mem_cons_of_mem _ (List.mem_cons_of_mem _ (List.mem_cons_self ..)))))
 have g2:¬(400<d.fx.length∨60<d.aw.length∨60<d.pr.length):=fun hh=>by rw[if_pos hh] at h2;cases h2
 unfold hdrE at h1
 split at h1
 ·cases h1
 ·rename_i hn
  split at h1
  ·rename_i hc;exact absurd h1 hc
  ·rename_i hc
   split at h1
   ·cases h1
   ·rename_i hft
    have hn2:nameB d.hd.nm 8=true:=by simpa using hn
    have hc2:cdE d.hd.cy=0:=Classical.byContradiction hc
    have hcy:¬(d.hd.cy<0∨9999<d.hd.cy):=fun hh=>by unfold cdE at hc2;rw[if_pos hh] at hc2;cases hc2
    have hft2:d.hd.fr=cdF d.hd.cy∧d.hd.tu=cdT d.hd.cy:=by
     simp only[not_or,Decidable.not_not] at hft;exact hft
    have hob:orgB d.hd.la d.hd.lo=true∧vldB d.hd.la d.hd.lo=true:=by
     unfold toE at h1
     split at h1
     ·cases h1
     ·rename_i ho
      simpa using ho
    have hv:=hob.2
    unfold vldB at hv
    simp only[Bool.and_eq_true,decide_eq_true_eq] at hv
    have hl:=nameBb_len hn2
    have hci:=cdX_i (n:=d.hd.cy) (by omega)
    refine⟨by omega,by unfold I64;omega,by rw[hft2.1];unfold I64;omega,by rw[hft2.2];unfold I64;omega,by unfold I64;omega,by unfold I64;omega,by omega,by omega,by omega,fun f hf => ?_,fun a ha => ?_,fun p hp => ?_⟩
    ·obtain⟨k,hk,hkf⟩:=getD_mem (d:=fx0) hf
     have h6:=allE_zero h3 k hk
     unfold fx1E at h6
     rw[hkf] at h6
     exact fixE_b (fstE_zero h6 _ (List.mem_cons_self ..))
    ·obtain⟨k,hk,hka⟩:=getD_mem (d:=aw0) ha
     have h6:=allE_zero h4 k hk
     unfold aw1E at h6
     rw[hka] at h6
     exact chkA_b (fstE_zero h6 _ (List.mem_cons_self ..))
    ·obtain⟨k,hk,hkp⟩:=getD_mem (d:=pr0) hp
     have h6:=allE_zero h5 k hk
     unfold pr1E at h6
     rw[hkp] at h6
     exact prcE_b (fstE_zero h6 _ (List.mem_cons_self ..))
theorem flatB_len {α β : Type} (f : α → List β) (c:Nat):∀(l:List α),(∀a∈l,(f a).length≤c)→(l.flatMap f).length≤l.length*c
 | [],_=>by simp
 | a::l,h=>by
  rw[List.flatMap_cons,List.length_append,List.length_cons,Nat.succ_mul]
  have h1:=h a (List.mem_cons_self ..)
  have h2:=flatB_len f c l (fun b hb=>h b (List.mem_cons_of_mem _ hb))
  omega
theorem txtLb_one (s:List UInt8):(txtL [s]).length=s.length+1:=by simp[txtL]
theorem txtLb_two (s t:List UInt8):(txtL [s,t]).length=s.length+t.length+2:=by simp[txtL];omega
theorem hdB_len {h:ImHd} (hn:h.nm.length≤255):(hdB h).length≤296:=by
 unfold hdB;rw[List.length_append,txtLb_one,numB_len];simp only[List.length_cons,List.length_nil];omega
theorem fxB_len {f:Fx} (h:FxB f):(fxB f).length≤545:=by
 have:=h.id;have:=h.rg
 unfold fxB;rw[List.length_append,List.length_append,txtLb_two,numB_len];simp only[List.length_cons,List.length_nil];omega
theorem ptB_len {p:Pt} (h:p.ref.length≤255):(ptB p).length≤273:=by
 unfold ptB;rw[List.length_append,List.length_append,txtLb_one,numB_len];simp only[List.length_cons,List.length_nil];omega
theorem awB_len {a:AwD} (h:AwBd a) (n:Nat) (hn:a.ps.length≤n):(awB a).length≤258+n*273:=by
 have h1:=flatB_len ptB 273 a.ps (fun p hp=>ptB_len (h.ps p hp).ref)
 have h2:=h.nm
 have h3:a.ps.length*273≤n*273:=Nat.mul_le_mul_right _ hn
 unfold awB;rw[List.length_append,List.length_append,txtLb_one,lowB_len];omega
theorem lgB_len {g:Lg} (h:LgB g):(lgB g).length≤579:=by
 have:=h.fi;have:=h.ce
 unfold lgB;rw[List.length_append,List.length_append,List.length_append,txtLb_two,numB_len];simp only[List.length_cons,List.length_nil];omega
theorem paB_len {x:Pa} (h:PaB x) (n:Nat) (hn:x.lg.length≤n):(paB x).length≤259+n*579:=by
 have h1:=flatB_len lgB 579 x.lg (fun g hg=>lgB_len (h.lg g hg))
 have h2:=h.nm
 have h3:x.lg.length*579≤n*579:=Nat.mul_le_mul_right _ hn
 unfold paB;rw[List.length_append,List.length_append,List.length_append,txtLb_one,lowB_len];simp only[List.length_cons,List.length_nil];omega
theorem prB_len {p:Prc} (h:PrB p) (n m:Nat) (hn:p.pa.length≤n) (hm:∀x∈p.pa,x.lg.length≤m):(prB p).length≤515+n*(259+m*579):=by
 have h1:=flatB_len paB (259+m*579) p.pa (fun x hx=>paB_len (h.pa x hx) m (hm x hx))
 have h2:=h.nm
 have h4:=h.ap
 have h3:p.pa.length*(259+m*579)≤n*(259+m*579):=Nat.mul_le_mul_right _ hn
 unfold prB;rw[List.length_append,List.length_append,List.length_append,txtLb_two,lowB_len];simp only[List.length_cons,List.length_nil];omega
theorem secsB_four (a b c d:List UInt8):(secsB 1 [a,b,c,d]).length=20+a.length+b.length+c.length+d.length:=by
 simp only[secsB,List.length_append,secB_len,List.length_nil];omega
theorem few_aw {d:DbD} {a:AwD} (h:a∈(fewD d).aw):a.ps.length≤8:=by
 obtain⟨b,_,rfl⟩:=List.mem_map.1 h
 show(b.ps.take 8).length≤8
 rw[List.length_take];omega
theorem few_pr {d:DbD} {p:Prc} (h:p∈(fewD d).pr):p.pa.length≤5∧∀x∈p.pa,x.lg.length≤6:=by
 obtain⟨q,_,rfl⟩:=List.mem_map.1 h
 refine⟨?_,fun x hx => ?_⟩
 ·show((q.pa.take 5).map fewP).length≤5
  rw[List.length_map,List.length_take];omega
 ·obtain⟨y,_,rfl⟩:=List.mem_map.1 hx
  show(y.lg.take 6).length≤6
  rw[List.length_take];omega
theorem fewD_len {d:DbD} (h:DbB (fewD d)):(dbB (fewD d)).length≤900000:=by
 have h1:=hdB_len h.nm
 have n2:(fewD d).fx.length≤24:=by show(d.fx.take 24).length≤24;rw[List.length_take];omega
 have n3:(fewD d).aw.length≤6:=by show((d.aw.take 6).map fewA).length≤6;rw[List.length_map,List.length_take];omega
 have n4:(fewD d).pr.length≤4:=by show((d.pr.take 4).map fewR).length≤4;rw[List.length_map,List.length_take];omega
 have h2:=flatB_len fxB 545 (fewD d).fx (fun f hf=>fxB_len (h.fx f hf))
 have h3:=flatB_len awB (258+8*273) (fewD d).aw (fun a ha=>awB_len (h.aw a ha) 8 (few_aw ha))
 have h4:=flatB_len prB (515+5*(259+6*579)) (fewD d).pr (fun p hp=>prB_len (h.pr p hp) 5 6 (few_pr hp).1 (few_pr hp).2)
 unfold dbB conB
 rw[List.length_append,secsB_four,List.length_append,List.length_append,List.length_append,lowB_len,lowB_len,lowB_len,show magicL.length=4 from rfl]
 omega
def AtB (bs:List UInt8) (a:Nat) (xs:List UInt8):Prop:=(bs.drop a).take xs.length=xs∧a+xs.length≤bs.length
theorem AtB.left {bs:List UInt8} {a:Nat} {x y:List UInt8} (h:AtB bs a (x++y)):AtB bs a x:=by
 obtain⟨h1,h2⟩:=h
 rw[List.length_append] at h1 h2
 refine⟨?_,by omega⟩
 have:=congrArg (List.take x.length) h1
 rw[List.take_take,List.take_left,Nat.min_eq_left (by omega)] at this
 exact this
theorem AtB.right {bs:List UInt8} {a:Nat} {x y:List UInt8} (h:AtB bs a (x++y)):AtB bs (a+x.length) y:=by
 obtain⟨h1,h2⟩:=h
 rw[List.length_append] at h1 h2
 refine⟨?_,by omega⟩
 have:=congrArg (List.drop x.length) h1
 rw[List.drop_left,List.drop_take,List.drop_drop,Nat.add_sub_cancel_left] at this
 exact this
theorem AtB.tail {bs:List UInt8} {a:Nat} {b:UInt8} {y:List UInt8} (h:AtB bs a (b::y)):AtB bs (a+1) y:=AtB.right (x:=[b]) h
section
variable {bs:List UInt8} {st a:Nat}
theorem shN_div (n:Int):∀(k:Nat),shN k n=n/(256^k:Int)
 | 0=>by simp[shN]
 | k+1=>by
  have hp:(0:Int)≤256^k:=Int.le_of_lt (Int.pow_pos (by omega))
  show shN k n/256=_
  rw[shN_div n k,Int.pow_succ,Int.ediv_ediv_of_nonneg hp]
end
def RowB (B:Nat) (out:List UInt8) (v:Value) (w:World):Prop:=w.ownsRow B 5 1 v out.length (out.map u8c)
def SrcB (src:List UInt8) (y:Value) (w:World):Prop:=∃A c,y=.slice A src.length c∧(0<src.length→∃ad,A=some ad∧∀j u,(src.map u8c)[j]? = some u→w.cell? (ad.add j)=some u)
def OutB (bs:List UInt8) (w:World) (e:Ending) (w':World):Prop:=∃A c,e=.returned (.slice A bs.length c)∧RowB w.heap.size bs (.slice A bs.length c) w'∧Below w.heap.size w w'
theorem RowB.form {B:Nat} {out:List UInt8} {v:Value} {w:World} (h:RowB B out v w):∃A c,v=.slice A out.length c:=by
 obtain⟨hl,⟨rfl,h0⟩|⟨g,cap,cur,rfl,_⟩⟩:=h
 ·exact⟨none,0,by rw[h0]⟩
 ·exact⟨_,_,rfl⟩
theorem RowB.below {B:Nat} {out:List UInt8} {v:Value} {w w':World} (h:RowB B out v w) (hb:Below w.heap.size w w'):RowB B out v w':=by
 obtain⟨hl,h2|⟨g,cap,cur,hv,hg,hh,r⟩⟩:=h
 ·exact⟨hl,.inl h2⟩
 ·exact⟨hl,.inr ⟨g,cap,cur,hv,hg,(hb.block g (heap_lt hh)).trans hh,r⟩⟩
theorem RowB.src {B:Nat} {out:List UInt8} {v:Value} {w:World} (h:RowB B out v w):SrcB out v w:=by
 have hcs:=@World.ownsRow.cells _ _ _ _ _ _ _ h
 obtain⟨A,c,rfl⟩:=h.form
 refine⟨A,c,rfl,fun h0 => ?_⟩
 obtain⟨hl,⟨h2,h3⟩|⟨g,cap,cur,hv,_⟩⟩:=h
 ·omega
 ·injection hv with e1 e2 e3
  subst e1
  exact⟨_,rfl,fun j u hu=>hcs (g:=g) rfl j u hu⟩
theorem RowB.base {B B':Nat} {out:List UInt8} {v:Value} {w:World} (h:RowB B out v w) (hb:B'≤B):RowB B' out v w:=by
 obtain⟨hl,h2|⟨g,cap,cur,hv,hg,r⟩⟩:=h
 ·exact⟨hl,.inl h2⟩
 ·exact⟨hl,.inr ⟨g,cap,cur,hv,Nat.le_trans hb hg,r⟩⟩
theorem SrcB.lit (w:World) (src:List UInt8):SrcB src (.slice (some ⟨w.heap.size,0,none⟩) src.length src.length) (w.alloc (.cells (src.map u8c).toArray 5)):=by
 refine⟨_,_,rfl,fun _=>⟨_,rfl,fun j u hu => ?_⟩⟩
 have hx:=heap_alloc_new w (.cells (src.map u8c).toArray 5)
 rw[show(⟨w.heap.size,0,none⟩:Addr).add j=⟨w.heap.size,j,none⟩ by rw[Addr.add_lit,Nat.zero_add],Lib.cell_of_heap hx j]
 simpa using hu
structure Fw (B:Nat) (w w':World):Prop where
 be:Below B w w'
 bx:∀q cs t,t≠5→Bx q cs t w→Bx q cs t w'
theorem Fw.refl (B:Nat) (w:World):Fw B w w:=⟨Below.refl _ _,fun _ _ _ _ h=>h⟩
theorem Fw.trans {B:Nat} {a b c:World} (h:Fw B a b) (k:Fw B b c):Fw B a c:=⟨h.be.trans k.be,fun q cs t ht hx=>k.bx q cs t ht (h.bx q cs t ht hx)⟩
theorem Fw.call {B:Nat} {a b c:World} (h:Fw B a b) (k:Below b.heap.size b c) (hB:B≤b.heap.size):Fw B a c:=h.trans ⟨k.mono hB,fun q cs t _ hx=>Bx.via k hx⟩
theorem Fw.alloc {B:Nat} {a b:World} (h:Fw B a b) (o:Obj) (hB:B≤b.heap.size):Fw B a (b.alloc o):=h.call ((Below.refl _ _).alloc (Nat.le_refl _) o) hB
theorem Fw.size {B:Nat} {a b:World} (h:Fw B a b) (hB:B≤a.heap.size):B≤b.heap.size:=Nat.le_trans hB h.be.size
section
variable {w:World} {ops:Array Oper} {rest:List Oper} {o:Oper} {a:Act} {Q:Exit→Act→World→Prop}
theorem wpList_appB (hgd:o.guard=none) (s x:Operand) (ho:o.op=.call {callee:=.builtin .append,args := #[s,x],argTypes := #[68,68]})
  (B:Nat) (out src:List UInt8) (v y:Value) (hs:a.eval s=v) (hO:RowB B out v w) (hx:a.eval x=y) (hS:SrcB src y w) (hN:out.length+src.length≤100000000) (hB:B≤w.heap.size) (res:List UInt8) (m:Nat) (hres:out++src=res) (hm:res.length=m)
  (h:∀A c w',Hid (RowB B res (.slice A m c) w')→Hid (Fw B w w')→wpList Tryz.prog ops Q rest (a.put o.dst (.slice A m c)) w'):wpList Tryz.prog ops Q (o::rest) a w:=by
 obtain⟨i0,hi,hz0,hz1,hz2⟩:=info_parts infoU8b
 obtain⟨A,c,rfl,hsrc⟩:=hS
 have hlo:=@World.ownsRow.lt _ _ _ _ _ _ _ hO
 refine wpList_append_any hgd s x 68 ho B 5 i0 (.int .u8 0) 1 1 Tryz.underlying68 hi hz0 hz1 hz2 rfl (by decide) v out.length (out.map u8c) hs hO A src.length c (src.map u8c) hx (by simp) hsrc (u8cells_one src) (by unfold maxLen;omega) (by omega) hB ?_
 intro v' w' hown hgrow _
 have hown2:RowB B (out++src) v' w':=by
  unfold RowB;rw[List.length_append,List.map_append];exact hown
 obtain⟨A',c',rfl⟩:=hown2.form
 subst hres hm
 refine h A' c' w' hown2 ⟨((Below.refl w.heap.size w).mono hB).grown hgrow hB (fun k hk=>(hlo k hk).1),fun q cs t ht hx => ?_⟩
 refine(hgrow.block q hx.lt (fun e => ?_)).trans hx
 obtain⟨_,⟨rfl,_⟩|⟨g,cap,cur,rfl,_,hh,_⟩⟩:=hO
 ·cases e
 ·have e1:q=g:=by simpa [Value.ownBlock] using e
  subst e1
  unfold Bx at hx
  rw[hh] at hx
  injection hx with hx
  injection hx with _ e2 _
  exact ht e2.symm
end
theorem u64_shr (x:Int) (k:Nat) (hk:k<8):(x%18446744073709551616)/2^(8*k)%256=shN k x%256:=by
 rw[shN_div]
 have e:(2:Int)^(8*k)=256^k:=by rw[Int.pow_mul];rfl
 rw[e]
 rcases(by omega:k=0∨k=1∨k=2∨k=3∨k=4∨k=5∨k=6∨k=7) with rfl|rfl|rfl|rfl|rfl|rfl|rfl|rfl
 ·rw[show(256:Int)^0=1 by decide];clear e;omega
 ·rw[show(256:Int)^1=256 by decide];clear e;omega
 ·rw[show(256:Int)^2=65536 by decide];clear e;omega
 ·rw[show(256:Int)^3=16777216 by decide];clear e;omega
 ·rw[show(256:Int)^4=4294967296 by decide];clear e;omega
 ·rw[show(256:Int)^5=1099511627776 by decide];clear e;omega
 ·rw[show(256:Int)^6=281474976710656 by decide];clear e;omega
 ·rw[show(256:Int)^7=72057594037927936 by decide];clear e;omega
theorem low_cell (x:Int) (k:Nat):([u8of (shN k x)]:List UInt8).map u8c=[.int .u8 (shN k x%256)]:=by
 simp only[List.map_cons,List.map_nil,u8c,u8of_nat]
set_option maxRecDepth 100000 in
set_option maxHeartbeats 8000000 in
theorem rlow_any (x:Int) (n:Nat) (w:World) (hn:n≤8) :
  Calls Tryz.prog 160 #[.int .i64 x,.int .i64 (n:Int)] w (OutB (lowB x n) w):=by
 go_enter Tryz.func160,Tryz.ntmps160
 go_wp2
 go_loopw [5,6] (fun v iv wr=>∃(k:Nat) (A:Option Addr) (c:Nat),k≤n∧iv=.int .i64 (k:Int)∧v=.slice A k c∧Hid (RowB w.heap.size (lowB x k) (.slice A k c) wr)∧Hid (Below w.heap.size w wr)) (fun _ iv _=>n-(intOf iv).toNat)
 case atStart=>exact⟨0,none,0,Nat.zero_le _,rfl,rfl,World.ownsRow_nil _ _ _ _,Below.refl _ _⟩
 case round =>
  obtain⟨k,A,c,hk,rfl,rfl,hob,hbe⟩:=hrel
  by_cases hlt:k<n
  ·have hki:(k:Int)<(n:Int):=by omega
   have hk8:k<8:=by omega
   have h8:IntKind.i64.wrap (8*(k:Int))=((8*k:Nat):Int):=by rw[IntKind.wrap_i64];omega
   have h88:((8*k:Nat):Int)≤64:=by omega
   have htn:(((8*k:Nat):Int)).toNat=8*k:=by omega
   have hval:shN k x%256=IntKind.u64.wrap x/2^(8*k)%256:=by rw[IntKind.wrap_u64];exact(u64_shr x k hk8).symm
   have HLIT:Hid (SrcB [u8of (shN k x)] (.slice (some ⟨wr.heap.size,0,none⟩) 1 1) (wr.alloc (.cells #[.int .u8 (IntKind.u64.wrap x/2^(8*k)%256)] 5))):=by
    have:=SrcB.lit wr [u8of (shN k x)]
    rw[low_cell,hval] at this
    exact this
   have HO:Hid (RowB w.heap.size (lowB x k) (.slice A k c) (wr.alloc (.cells #[.int .u8 (IntKind.u64.wrap x/2^(8*k)%256)] 5))):=hob.out.below ((Below.refl _ _).alloc (Nat.le_refl _) _)
   have HB:Hid (Below w.heap.size w (wr.alloc (.cells #[.int .u8 (IntKind.u64.wrap x/2^(8*k)%256)] 5))):=hbe.out.alloc hbe.out.size _
   have hll:(lowB x k).length=k:=lowB_len x k
   have HLL:=Lib.hid hll
   clear hll hob hval
   go_wp2_with ((at_builtin;refine wpList_appB rfl _ _ rfl w.heap.size (lowB x k) [u8of (shN k x)] _ _ rfl HO.out rfl HLIT.out ?d1 ?d2 (lowB x (k+1)) (k+1) (lowB_snoc x k).symm (lowB_len x (k+1)) ?_))
   case d1=>rw[HLL.out];show k+1≤_;omega
   case d2=>exact HB.out.size
   intro A2 c2 w3 hO3 hB3
   have HB3:Hid (Below w.heap.size w w3):=HB.out.trans hB3.out.be
   clear hB3 HLIT HO HB h8 h88 htn
   go_wp2
   go_roundw
   case rel=>exact⟨k+1,A2,c2,hlt,by first|rfl|go_num,rfl,hO3,HB3⟩
   case measure=>simp[intOf];omega
  ·have e:k=n:=by omega
   subst e
   have hll:(lowB x k).length=k:=lowB_len x k
   have HF:Hid (OutB (lowB x k) w (.returned (.slice A k c)) wr):=by
    refine⟨A,c,by rw[hll],by rw[hll];exact hob.out,hbe.out⟩
   clear hll
   go_wp2
   go_ret
   exact HF.out
theorem str_cells (s:ByteArray):Lib.strCells s=(bl s).map u8c:=by
 unfold Lib.strCells bl u8c
 simp
set_option maxRecDepth 100000 in
set_option maxHeartbeats 4000000 in
theorem rstr_any (s:ByteArray) (w:World) (hs:s.size≤255) :
  Calls Tryz.prog 242 #[.string s] w (OutB (u8of (s.size:Int)::bl s) w):=by
 obtain⟨i0,hi,hz0,hz1,hz2⟩:=info_parts infoU8b
 have hm:IntKind.u8.wrap (s.size:Int)=(s.size:Int):=by rw[IntKind.wrap_u8];omega
 have hbl:=bl_len s
 have HOWN:=Lib.hid (World.ownsRow_lit (base:=w.heap.size) (e:=5) (size:=1) w #[.int .u8 (s.size:Int)] 1 (Nat.le_refl _) (by unfold maxLen;omega) rfl)
 have HBA:Hid (Below w.heap.size w (w.alloc (.cells #[.int .u8 (s.size:Int)] 5))):=(Below.refl _ _).alloc (Nat.le_refl _) _
 have hlo:=HOWN.out.lt
 have HMC:Hid ((u8of (s.size:Int)::bl s).map u8c=[.int .u8 (s.size:Int)]++Lib.strCells s):=by
  unfold Hid
  rw[str_cells,List.map_cons]
  unfold u8c
  rw[u8of_nat,show(s.size:Int)%256=(s.size:Int) by omega];rfl
 go_enter Tryz.func242,Tryz.ntmps242
 go_wp2_with (at_builtin;refine wpList_append_own_string2 _ rfl _ _ 68 9 rfl w.heap.size 5 i0 Tryz.underlying68 Tryz.underlying9 hi hz0 hz1 hz2 _ 1 [.int .u8 (s.size:Int)] rfl HOWN.out s rfl ?e1 ?e2 ?e3 ?_)
 case e1=>unfold maxLen;omega
 case e2=>omega
 intro v' w' hown hgrow _
 have hl:(u8of (s.size:Int)::bl s).length=1+s.size:=by rw[List.length_cons,bl_len];omega
 have hO:RowB w.heap.size (u8of (s.size:Int)::bl s) v' w':=by
  unfold RowB;rw[hl,HMC.out];exact hown
 obtain⟨A,c,rfl⟩:=hO.form
 have HF:Hid (OutB (u8of (s.size:Int)::bl s) w (.returned (.slice A (u8of (s.size:Int)::bl s).length c)) w'):=⟨A,c,rfl,hO,HBA.out.grown hgrow (by simp) (fun k hk=>(hlo k hk).1)⟩
 clear hown hgrow hO hlo HOWN HBA HMC hl
 go_wp2
 go_ret
 exact HF.out
end Go.Proofs.YtgmehlgfilpleaaGreatDoor
