/-
  Contract: the first error of a database (navdb.Check).
-/
import Derived.Test.YtgmehlgfilpleaaGreatDoorMG20
import Derived.Test.YtgmehlgfilpleaaGreatDoorNvJ
namespace Go.Proofs.YtgmehlgfilpleaaGreatDoor
open Go.RowKit
set_option linter.unusedVariables false
set_option linter.unusedSimpArgs false
theorem mapF_cell {w:World} {b:Nat} {β : Type} {e:Elm β} {n:Nat} {m:List UInt8→Option β} (hm:MapF e w b n m) {k:Nat} {cs:Array Value} {t:TypeId} (hx:Bx k cs t w):k≠b:=by
 obtain⟨D,⟨es,clock,hbk,r⟩,h2⟩:=hm
 intro e;subst e
 unfold Bx at hx
 rw[hx] at hbk
 cases hbk
structure SzD (d:DbD):Prop where
 fx:SzL d.fx
 pr:∀p∈d.pr,p.pa.length≤1000000∧∀x∈p.pa,x.lg.length≤1000000
def dbA (h:ImHd) (f a p:Value):Array Value := #[.string (sb h.nm),.int .i64 h.cy,.int .i64 h.fr,.int .i64 h.tu,.int .i64 h.la,.int .i64 h.lo,f,a,p]
theorem dbA_eq (h:ImHd) (f a p:Value):(dbC h f a p).toArray=dbA h f a p:=rfl
structure Ck2 (w:World) (D:DbD) (f a p:Value) (q4 q5 b1 b2 b3 c1 c2 c3:Nat) (bf:List Fx) (wr:World):Prop where
 ix:IxL b1 b2 b3 D.fx wr
 jx:IxL c1 c2 c3 bf wr
 x1:Bx w.heap.size (dbA D.hd f a p) 30 wr
 x4:Bx q4 #[.map (some b1),.map (some b2),.map (some b3)] 93 wr
 x5:Bx q5 #[.map (some c1),.map (some c2),.map (some c3)] 93 wr
 be:Below w.heap.size w wr
theorem Ck2.below {w:World} {D:DbD} {f a p:Value} {q4 q5 b1 b2 b3 c1 c2 c3:Nat} {bf:List Fx} {wr w':World} (h:Ck2 w D f a p q4 q5 b1 b2 b3 c1 c2 c3 bf wr) (hb:Below wr.heap.size wr w'):Ck2 w D f a p q4 q5 b1 b2 b3 c1 c2 c3 bf w' :=
 ⟨h.ix.below hb,h.jx.below hb,h.x1.via hb,h.x4.via hb,h.x5.via hb,Below.then_ h.be hb⟩
structure Ap2 (B b1 b2 b3 c1 c2 c3:Nat):Prop where
 h1:¬S3 c1 c2 c3 b1
 h2:¬S3 c1 c2 c3 b2
 h3:¬S3 c1 c2 c3 b3
 lo:B≤c1∧B≤c2∧B≤c3
theorem Ap2.lo' {B b1 b2 b3 c1 c2 c3:Nat} (h:Ap2 B b1 b2 b3 c1 c2 c3):∀k,S3 c1 c2 c3 k→B≤k:=by
 rintro k (rfl|rfl|rfl)
 ·exact h.lo.1
 ·exact h.lo.2.1
 ·exact h.lo.2.2
theorem S3.cell {c1 c2 c3:Nat} {bf:List Fx} {w:World} (h:IxL c1 c2 c3 bf w) {k:Nat} {cs:Array Value} {t:TypeId} (hx:Bx k cs t w):¬S3 c1 c2 c3 k:=by
 rintro(e|e|e)
 ·exact mapF_cell h.r hx e
 ·exact mapF_cell h.a hx e
 ·exact mapF_cell h.u hx e
theorem Ck2.add {w:World} {D:DbD} {f a p:Value} {q4 q5 b1 b2 b3 c1 c2 c3:Nat} {bf bf':List Fx} {wr w':World} (h:Ck2 w D f a p q4 q5 b1 b2 b3 c1 c2 c3 bf wr) (ap:Ap2 w.heap.size b1 b2 b3 c1 c2 c3) (hj:IxL c1 c2 c3 bf' w') (hf:Frm (S3 c1 c2 c3) wr w'):Ck2 w D f a p q4 q5 b1 b2 b3 c1 c2 c3 bf' w' :=
 ⟨h.ix.frm hf ap.h1 ap.h2 ap.h3,hj,(hf.block _ h.x1.lt (S3.cell h.jx h.x1)).trans h.x1,(hf.block _ h.x4.lt (S3.cell h.jx h.x4)).trans h.x4,(hf.block _ h.x5.lt (S3.cell h.jx h.x5)).trans h.x5,h.be.trans (hf.below h.be.size ap.lo')⟩
theorem fst3 (a b c:Int):fstE [a,b,c]=if a=0 then (if b=0 then c else b) else a:=by
 unfold fstE fstE fstE fstE
 by_cases h:c=0
 ·rw[if_pos h,h]
 ·rw[if_neg h]
theorem fst5 (a b c d e:Int):fstE [a,b,c,d,e]=if a=0 then (if b=0 then (if c=0 then (if d=0 then e else d) else c) else b) else a:=by
 unfold fstE fstE fstE fstE fstE fstE
 by_cases h:e=0
 ·rw[if_pos h,h]
 ·rw[if_neg h]
theorem prc_names {p:Prc} (h:prcE p=0):p.ap.length≤255∧p.nm.length≤255∧∀x∈p.pa,x.nm.length≤255:=by
 have hnl:∀(l:List UInt8) (m:Int),nameB l m=true→(l.length:Int)≤m:=fun l m h=>by
  unfold nameB at h
  simp only[Bool.and_eq_true,decide_eq_true_eq] at h
  exact h.1.1.2
 unfold prcE at h
 rw[fst6] at h
 have h0:(nameB p.ap 6&&nameB p.nm 8)=true:=by
  cases hc:(nameB p.ap 6&&nameB p.nm 8)
  ·rw[hc] at h;simp at h
  ·rfl
 rw[if_pos h0,if_pos rfl] at h
 rw[Bool.and_eq_true] at h0
 have ha:=hnl _ _ h0.1
 have hb:=hnl _ _ h0.2
 refine⟨by omega,by omega,fun x hx => ?_⟩
 have hz:allE (pa1E p.kd p.pa) p.pa.length=0:=by
  by_cases hk:(if p.kd=1∨p.kd=2∨p.kd=3 then (0:Int) else 17)=0
  ·rw[if_pos hk] at h
   by_cases h12:(if 12<p.pa.length then (3:Int) else 0)=0
   ·rw[if_pos h12] at h
    by_cases hz:allE (pa1E p.kd p.pa) p.pa.length=0
    ·exact hz
    ·rw[if_neg hz] at h;exact absurd h hz
   ·rw[if_neg h12] at h;exact absurd h h12
  ·rw[if_neg hk] at h;exact absurd h hk
 obtain⟨i,hi,rfl⟩:=List.getElem_of_mem hx
 have h2:=allE_zero hz i hi
 unfold pa1E at h2
 rw[getD_in hi,fst5] at h2
 have hn:nmdE p.pa[i]=0:=by
  by_cases e1:(if (p.pa[i]).kd∈kndL p.kd then (0:Int) else 17)=0
  ·rw[if_pos e1] at h2
   by_cases e2:(if i=0 then 0 else paO p.kd p.pa[i] (p.pa.getD (i-1) pa0))=0
   ·rw[if_pos e2] at h2
    by_cases e3:nmdE p.pa[i]=0
    ·exact e3
    ·rw[if_neg e3] at h2;exact absurd h2 e3
   ·rw[if_neg e2] at h2;exact absurd h2 e2
  ·rw[if_neg e1] at h2;exact absurd h2 e1
 unfold nmdE at hn
 by_cases hk:(p.pa[i]).kd=1∨(p.pa[i]).kd=3
 ·rw[if_pos hk] at hn
  cases hm:nameB (p.pa[i]).nm 8
  ·rw[hm] at hn;simp at hn
  ·have:=hnl _ _ hm;omega
 ·rw[if_neg hk] at hn
  by_cases hnil:(p.pa[i]).nm=[]
  ·rw[hnil];simp
  ·rw[if_neg hnil] at hn;cases hn
set_option maxRecDepth 100000 in
set_option maxHeartbeats 80000000 in
theorem dbCheck_any (D:DbD) (f a p:Value) (w:World) (hT:LegT w) (h:DbV w f a p D) (hz:SzD D) :
  Calls Tryz.prog 10 #[.agg (dbC D.hd f a p).toArray] w fun e w'=>e=.returned (.int .i64 (dbE D))∧Below w.heap.size w w':=by
 obtain⟨R,hR⟩:∃R,dbE D=R:=⟨_,rfl⟩
 have HE:Hid (R=if hdrE D.hd=0 then (if 400<D.fx.length∨60<D.aw.length∨60<D.pr.length then 3 else if allE (fx1E D.hd.la D.hd.lo D.fx) D.fx.length=0 then (if allE (aw1E D.fx D.aw) D.aw.length=0 then allE (pr1E D.fx D.pr) D.pr.length else allE (aw1E D.fx D.aw) D.aw.length) else allE (fx1E D.hd.la D.hd.lo D.fx) D.fx.length) else hdrE D.hd):=by
  unfold Hid;rw[←hR];unfold dbE;rw[fst5]
  by_cases h3:400<D.fx.length∨60<D.aw.length∨60<D.pr.length
  ·rw[if_pos h3,if_pos h3];rfl
  ·rw[if_neg h3,if_neg h3];rfl
 rw[hR]
 clear hR
 have HH:=Lib.hid h
 have HZ:=Lib.hid hz
 have HT:=Lib.hid hT
 obtain⟨Af,cf,rfl,hcf,hmf⟩:=h.fx.1.form
 obtain⟨Aa,ca,rfl,hca,hma⟩:=h.aw.form
 obtain⟨Ap,cp,rfl,hcp,hmp⟩:=h.pr.form
 unfold maxLen at hmf hma hmp
 have HDR:=Lib.hid (fun w=>header_any D.hd w h.nm)
 unfold hdD at HDR
 obtain⟨n,hn⟩:∃n,D.fx.length=n:=⟨_,rfl⟩
 obtain⟨na,hna⟩:∃n,D.aw.length=n:=⟨_,rfl⟩
 obtain⟨np,hnp⟩:∃n,D.pr.length=n:=⟨_,rfl⟩
 rw[hn,hna,hnp] at HE HH
 rw[hn] at hcf
 rw[hna] at hca
 rw[hnp] at hcp
 rw[hn,hna,hnp]
 have HN:=Lib.hid hn
 have HNA:=Lib.hid hna
 have HNP:=Lib.hid hnp
 obtain⟨he,hhe⟩:∃e,hdrE D.hd=e:=⟨_,rfl⟩
 rw[hhe] at HE HDR
 clear h hz hT hn hna hnp hhe
 obtain⟨w0,hw0⟩:∃W,w.alloc (.cells (dbA D.hd (.slice Af n cf) (.slice Aa na ca) (.slice Ap np cp)) 30)=W:=⟨_,rfl⟩
 have B0:Hid (Below w.heap.size w w0):=by rw[←hw0];exact(Below.refl _ _).alloc (Nat.le_refl _) _
 have X0:Hid (Bx w.heap.size (dbA D.hd (.slice Af n cf) (.slice Aa na ca) (.slice Ap np cp)) 30 w0):=by rw[←hw0];exact Bx.last w _ _
 obtain⟨⟨x0,x1,x2,x3,x4,x5,x6,x7,x8⟩,_⟩:=Bx.cells9 X0.out
 have xl:=Bx.lt X0.out
 have hmm:=@run_makeMap Tryz.prog
 unfold dbA at hw0
 have HW0:=Lib.hid hw0
 clear hw0
 rw[dbA_eq]
 unfold dbA
 go_enter Tryz.func10,Tryz.ntmps10
 go_wp2_with fail
 rw[HW0.out]
 clear HW0
 refine(HDR.out _).mono ?_
 rintro e w1 ⟨rfl,hb1⟩
 have B1:=Lib.hid (Below.then_ B0.out hb1)
 have X1:=Lib.hid (X0.out.via hb1)
 clear hb1 B0 X0 x0 x1 x2 x3 x4 x5 x6 x7 x8 xl HDR
 by_cases h0:he=0
 case neg =>
  have HV:Hid (R=he):=by unfold Hid;rw[HE.out,if_neg h0]
  have e0:(he != 0)=true:=bne_iff_ne.2 h0
  clear h0
  go_wp2
  go_ret
  exact⟨ret_int HV.out.symm,B1.out⟩
 case pos =>
 subst h0
 rw[if_pos rfl] at HE
 obtain⟨⟨x0,x1,x2,x3,x4,x5,x6,x7,x8⟩,_⟩:=Bx.cells9 X1.out
 have xl:=Bx.lt X1.out
 by_cases hf4:400<n
 ·have HV:Hid (R=3):=by unfold Hid;rw[HE.out,if_pos (.inl hf4)]
  have e1:(400:Int)<(n:Int):=by omega
  clear hf4
  go_wp2
  go_ret
  exact⟨ret_int HV.out.symm,B1.out⟩
 by_cases ha6:60<na
 ·have HV:Hid (R=3):=by unfold Hid;rw[HE.out,if_pos (.inr (.inl ha6))]
  have e1:¬(400:Int)<(n:Int):=by omega
  have e2:(60:Int)<(na:Int):=by omega
  clear hf4 ha6
  go_wp2
  go_ret
  exact⟨ret_int HV.out.symm,B1.out⟩
 by_cases hp6:60<np
 ·have HV:Hid (R=3):=by unfold Hid;rw[HE.out,if_pos (.inr (.inr hp6))]
  have e1:¬(400:Int)<(n:Int):=by omega
  have e2:¬(60:Int)<(na:Int):=by omega
  have e3:(60:Int)<(np:Int):=by omega
  clear hf4 ha6 hp6
  go_wp2
  go_ret
  exact⟨ret_int HV.out.symm,B1.out⟩
 rw[if_neg (by omega)] at HE
 have e1:¬(400:Int)<(n:Int):=by omega
 have e2:¬(60:Int)<(na:Int):=by omega
 have e3:¬(60:Int)<(np:Int):=by omega
 have hn4:n≤400:=by omega
 have hna6:na≤60:=by omega
 have hnp6:np≤60:=by omega
 have HFB:Hid (FxsR w (.slice Af n cf) D.fx):=HH.out.fx.1
 have HKD:Hid (∀f∈D.fx,f.kd<256):=fun f hf=>(HH.out.fx.2 f hf).2.2
 clear hf4 ha6 hp6
 go_wp2_with fail
 refine(indexedG_any _ D.fx w1 (HFB.out.below B1.out) HZ.out.fx HKD.out (by rw[HN.out];omega)).mono ?_
 rintro e w2 ⟨b1,b2,b3,rfl,hix,hb2,q1,q2,q3⟩
 have HIX:=Lib.hid hix
 have B2:=Lib.hid (Below.then_ B1.out hb2)
 have X2:=Lib.hid (X1.out.via hb2)
 have hw2:=hb2.size
 clear hix hb2 x0 x1 x2 x3 x4 x5 x6 x7 x8 xl X1
 go_wp2_with fail
 refine(indexedG_any (.slice none 0 0) [] w2 (Rd.nil w2 7) (fun f h=>by cases h) (fun f h=>by cases h) (by decide)).mono ?_
 rintro e w3 ⟨c1,c2,c3,rfl,hjx,hb3,r1,r2,r3⟩
 have HJX:=Lib.hid hjx
 have hw3:=hb3.size
 have HIX3:=Lib.hid (HIX.out.below hb3)
 have B3:=Lib.hid (Below.then_ B2.out hb3)
 have X3:=Lib.hid (X2.out.via hb3)
 obtain⟨hbl1,hbl2,hbl3⟩:=HIX.out.lt
 have hwz:=B2.out.size
 unfold ixV
 clear hjx hb3 HIX
 go_upto_region 7 with fail
 obtain⟨w4,hw4⟩:∃W,(w3.alloc (.cells #[.map (some b1),.map (some b2),.map (some b3)] 93)).alloc (.cells #[.map (some c1),.map (some c2),.map (some c3)] 93)=W:=⟨_,rfl⟩
 rw[hw4]
 obtain⟨q4,hq4⟩:∃q,w3.heap.size=q:=⟨_,rfl⟩
 obtain⟨q5,hq5⟩:∃q,w3.heap.size+1=q:=⟨_,rfl⟩
 have K0:Hid (Ck2 w D (.slice Af n cf) (.slice Aa na ca) (.slice Ap np cp) q4 q5 b1 b2 b3 c1 c2 c3 [] w4):=by
  have hb:Below w3.heap.size w3 w4:=by rw[←hw4];exact((Below.refl _ _).alloc (Nat.le_refl _) _).alloc (by simp) _
  refine⟨HIX3.out.below hb,HJX.out.below hb,X3.out.via hb,?_,?_,Below.then_ B3.out hb⟩
  ·rw[←hw4,←hq4];exact(Bx.last w3 _ _).grow _
  ·rw[←hw4,←hq5];exact Bx.last2 w3 _ _ _
 have AP:Hid (Ap2 w.heap.size b1 b2 b3 c1 c2 c3):=by
  refine⟨?_,?_,?_,by omega,by omega,by omega⟩ <;> (unfold S3;omega)
 rw[hq5,hq4]
 clear hw4 hq4 hq5 hmm HJX HIX3 B3 X3 hbl1 hbl2 hbl3 q1 q2 q3 r1 r2 r3 hw2 hw3 B1 B2 X2 hwz e1 e2 e3
 obtain⟨⟨x0,x1,x2,x3,x4,x5,x6,x7,x8⟩,_⟩:=Bx.cells9 K0.out.x1
 have xl:=Bx.lt K0.out.x1
 go_wp2_with fail
 go_loopw [58] (fun iv wr=>∃k:Nat,k≤n∧iv=.int .i64 (k:Int)∧Hid (allE (fx1E D.hd.la D.hd.lo D.fx) n=fsE (fx1E D.hd.la D.hd.lo D.fx) k (n-k))∧Hid (Ck2 w D (.slice Af n cf) (.slice Aa na ca) (.slice Ap np cp) q4 q5 b1 b2 b3 c1 c2 c3 (D.fx.take k) wr)) (fun iv _=>n-(intOf iv).toNat)
 case atStart=>exact⟨0,Nat.zero_le _,rfl,rfl,K0.out⟩
 case round =>
  obtain⟨k,hk,rfl,hfs,hck⟩:=hrel
  clear x0 x1 x2 x3 x4 x5 x6 x7 x8 xl
  obtain⟨⟨x0,x1,x2,x3,x4,x5,x6,x7,x8⟩,_⟩:=Bx.cells9 hck.out.x1
  have xl:=Bx.lt hck.out.x1
  by_cases hlt:k<n
  ·have hkl:k<D.fx.length:=by rw[HN.out];exact hlt
   have HR:=Lib.hid (HFB.out.below hck.out.be)
   obtain⟨g,o,c',hA,hgl,hat⟩:=FxsR.at_ (by have:=HR.out;rw[←HN.out] at this;exact this:FxsR wr (.slice Af D.fx.length cf) D.fx) hkl
   rw[HN.out] at hA
   simp only[Value.slice.injEq,true_and] at hA
   obtain⟨rfl,rfl⟩:=hA
   have hsz:=HZ.out.fx.get hkl
   have hfk:=HKD.out _ (List.getElem_mem hkl)
   have HTK:Hid (D.fx.take (k+1)=D.fx.take k++[D.fx[k]]):=List.take_succ_eq_append_getElem hkl
   have HLE:Hid (fx1E D.hd.la D.hd.lo D.fx k=fstE [fixE D.fx[k],if k=0 then 0 else ordE (cmpS (fxRef D.fx[k]) (fxRef (D.fx.getD (k-1) fx0))),plcE D.hd.la D.hd.lo D.fx[k] (D.fx.take k) D.fx]):=by
    unfold Hid fx1E;rw[getD_in hkl]
   obtain⟨f,hf⟩:∃f,D.fx[k]=f:=⟨_,rfl⟩
   rw[hf] at hat hsz hfk HTK HLE
   obtain⟨fe,hfe⟩:∃e,fx1E D.hd.la D.hd.lo D.fx k=e:=⟨_,rfl⟩
   rw[hfe,fst3] at HLE
   have HFE:=Lib.hid hfe
   obtain⟨y0,y1,y2,y3,y4,y5,y6⟩:=hat
   have hki:(k:Int)<(n:Int):=by omega
   obtain⟨wA,hwA⟩:∃W,wr.alloc (.cells #[.string (sb f.id),.string (sb f.rg),.int .u8 (f.kd:Int),.int .i64 f.lat,.int .i64 f.lon,.int .i64 f.el,.int .i64 f.ra] 38)=W:=⟨_,rfl⟩
   have BA:Hid (Below wr.heap.size wr wA):=by rw[←hwA];exact(Below.refl _ _).alloc (Nat.le_refl _) _
   obtain⟨q7,hq7⟩:∃q,wr.heap.size=q:=⟨_,rfl⟩
   have FA:Hid (FxBox wA q7 f):=by rw[←hwA,←hq7];exact heap_alloc_new wr _
   have KA:=Lib.hid (hck.out.below BA.out)
   have HWA:=Lib.hid hwA
   have HSZ:=Lib.hid hsz
   have HFK:=Lib.hid hfk
   have HCF:=Lib.hid (fun W=>checkF_any f W (Nat.le_trans hsz.1 (by unfold maxLen;omega)) (Nat.le_trans hsz.2 (by unfold maxLen;omega)))
   have HQ7:=Lib.hid hq7
   clear hq7 hf hwA hck hfk hsz HR x0 x1 x2 x3 x4 x5 x6 x7 x8 xl hfe
   go_upto_region 10 with fail
   rw[HWA.out,HQ7.out]
   clear HWA y0 y1 y2 y3 y4 y5 y6
   obtain⟨y0,y1,y2,y3,y4,y5,y6⟩:=FA.out.cells
   have yl:=lt_heap FA.out
   go_wp2_with fail
   refine(HCF.out _).mono ?_
   rintro e w5 ⟨rfl,hb5⟩
   have K5:=Lib.hid (KA.out.below hb5)
   have F5:Hid (FxBox w5 q7 f):=(hb5.block q7 (lt_heap FA.out)).trans FA.out
   clear hb5 KA FA HCF y0 y1 y2 y3 y4 y5 y6 yl
   obtain⟨fc,hfc⟩:∃e,fixE f=e:=⟨_,rfl⟩
   rw[hfc] at HLE
   rw[hfc]
   clear hfc
   by_cases hc0:fc=0
   case neg =>
    have HV:Hid (R=fc):=by
     have h1:fe=fc:=by rw[HLE.out,if_neg hc0]
     have h2:allE (fx1E D.hd.la D.hd.lo D.fx) n=fc:=by rw[hfs.out,fsE_hit hlt (by rw[HFE.out,h1];exact hc0),HFE.out,h1]
     unfold Hid;rw[HE.out,h2,if_neg hc0]
    have e0:(fc != 0)=true:=bne_iff_ne.2 hc0
    have BE:=Lib.hid K5.out.be
    clear hc0
    go_wp2
    go_ret
    exact⟨ret_int HV.out.symm,BE.out⟩
   case pos =>
   subst hc0
   rw[if_pos rfl] at HLE
   go_upto_if 69 with (fail)
   go_cut [9] (fun _ wx=>Hid (Ck2 w D (.slice (some ⟨g,o,none⟩) n cf) (.slice Aa na ca) (.slice Ap np cp) q4 q5 b1 b2 b3 c1 c2 c3 (D.fx.take k) wx)∧Hid (FxBox wx q7 f)∧Hid ((if k=0 then 0 else ordE (cmpS (fxRef f) (fxRef (D.fx.getD (k-1) fx0))))=0))
   case first =>
    rcases Nat.eq_zero_or_pos k with h0|h0
    ·have h0i:¬(0:Int)<(k:Int):=by omega
     have HZ0:Hid ((if k=0 then 0 else ordE (cmpS (fxRef f) (fxRef (D.fx.getD (k-1) fx0))))=0):=by unfold Hid;rw[if_pos h0]
     clear h0
     go_wp2
     go_meet
     exact⟨K5.out,F5.out,HZ0.out⟩
    ·have h0i:(0:Int)<(k:Int):=by omega
     obtain⟨j,hj⟩:∃j,k=j+1:=⟨k-1,by omega⟩
     subst hj
     have HR5:=Lib.hid (HFB.out.below K5.out.be)
     have hjl:j<D.fx.length:=by rw[HN.out];omega
     obtain⟨g',o',c'',hA5,hgl5,hatp⟩:=FxsR.at_ (by have:=HR5.out;rw[←HN.out] at this;exact this:FxsR w5 (.slice (some ⟨g,o,none⟩) D.fx.length cf) D.fx) hjl
     rw[HN.out] at hA5
     simp only[Value.slice.injEq,Option.some.injEq,Addr.mk.injEq,true_and,and_true] at hA5
     obtain⟨⟨rfl,rfl⟩,rfl⟩:=hA5
     have hszp:=HZ.out.fx.get hjl
     have HOE:Hid ((if j+1=0 then 0 else ordE (cmpS (fxRef f) (fxRef (D.fx.getD (j+1-1) fx0))))=ordE (cmpS (fxRef f) (fxRef D.fx[j]))):=by unfold Hid;rw[if_neg (by omega),show j+1-1=j by omega,getD_in hjl]
     rw[HOE.out] at HLE
     obtain⟨p,hp⟩:∃p,D.fx[j]=p:=⟨_,rfl⟩
     rw[hp] at hatp hszp HLE HOE
     obtain⟨p0,p1,p2,p3,p4,p5,p6⟩:=hatp
     have gl5:=hgl5
     have z0:=fun pb:BelBy w5=>(pb.h.cell (p:=⟨g,o+j*7,none⟩) gl5).trans p0
     have z1:=fun pb:BelBy w5=>(pb.h.cell (p:=⟨g,o+j*7+1,none⟩) gl5).trans p1
     have z2:=fun pb:BelBy w5=>(pb.h.cell (p:=⟨g,o+j*7+2,none⟩) gl5).trans p2
     have z3:=fun pb:BelBy w5=>(pb.h.cell (p:=⟨g,o+j*7+3,none⟩) gl5).trans p3
     have z4:=fun pb:BelBy w5=>(pb.h.cell (p:=⟨g,o+j*7+4,none⟩) gl5).trans p4
     have z5:=fun pb:BelBy w5=>(pb.h.cell (p:=⟨g,o+j*7+5,none⟩) gl5).trans p5
     have z6:=fun pb:BelBy w5=>(pb.h.cell (p:=⟨g,o+j*7+6,none⟩) gl5).trans p6
     have v0:=fun pb:BelBy w5=>(FxBox.below F5.out pb.h).cells.c0
     have v1:=fun pb:BelBy w5=>(FxBox.below F5.out pb.h).cells.c1
     have v2:=fun pb:BelBy w5=>(FxBox.below F5.out pb.h).cells.c2
     have v3:=fun pb:BelBy w5=>(FxBox.below F5.out pb.h).cells.c3
     have v4:=fun pb:BelBy w5=>(FxBox.below F5.out pb.h).cells.c4
     have v5:=fun pb:BelBy w5=>(FxBox.below F5.out pb.h).cells.c5
     have v6:=fun pb:BelBy w5=>(FxBox.below F5.out pb.h).cells.c6
     have x6:=fun pb:BelBy w5=>(K5.out.x1.via pb.h).cell 6 (u:=.slice (some ⟨g,o,none⟩) n cf) rfl
     have r1:=fun W=>fixRef_any f W HSZ.out.1 HSZ.out.2
     have r2:=fun W=>fixRef_any p W hszp.1 hszp.2
     unfold FRefPost at r1 r2
     obtain⟨cv,hcv⟩:∃x,cmpS (fxRef f) (fxRef p)=x:=⟨_,rfl⟩
     have hcm:=fun W=>(cmpStr_any (sb (fxRef f)) (sb (fxRef p)) W).mono (R':=fun e w'=>e=.returned (.int .i64 cv)∧Below W.heap.size W w') (fun e w' h=>⟨by rw[h.1,bl_sb,bl_sb,hcv],by rw[h.2];exact Below.refl _ _⟩)
     rw[hcv] at HLE HOE
     obtain⟨ov,hov⟩:∃x,ordE cv=x:=⟨_,rfl⟩
     have hor:=fun W=>(norder_any cv W).mono (R':=fun e w'=>e=.returned (.int .i64 ov)∧Below W.heap.size W w') (fun e w' h=>⟨by rw[h.1,←hov];rfl,by rw[←h.2];exact Below.refl _ _⟩)
     rw[hov] at HLE HOE
     obtain⟨rf,hrf⟩:∃r,fxRef f=r:=⟨_,rfl⟩
     obtain⟨rp,hrp⟩:∃r,fxRef p=r:=⟨_,rfl⟩
     rw[hrf] at r1 hcm
     rw[hrp] at r2 hcm
     have e6:IntKind.i64.wrap (j:Int)=(j:Int):=IntWalk.i64_in _ (by omega)
     have e1:IntKind.i64.wrap ((j:Int)+1-1)=(j:Int):=by rw[show(j:Int)+1-1=(j:Int) by omega];exact e6
     have e4:(j:Int)<(n:Int):=by omega
     clear h0 hrf hrp hp hszp hgl5 p0 p1 p2 p3 p4 p5 p6 HR5 HTK hcv hov
     go_upto_region 14 with fail
     refine wp_region_quiet_bel (by kernel_rfl) (by kernel_rfl) ?_
     repeat(quiet_step (first|(go_at_call 14;first|with_reducible exact Calls.bel_of (r1 _)|with_reducible exact Calls.bel_of (r2 _))|(go_at_call 43;with_reducible exact Calls.bel_of (hcm _))|(go_at_call 42;with_reducible exact Calls.bel_of (hor _))))
     refine wpQuiet_nil ?_
     rintro wz ⟨pw,hwz⟩
     have BZ:Hid (Below w5.heap.size w5 wz):=by rw[hwz];exact pw.h
     clear hwz pw z0 z1 z2 z3 z4 z5 z6 v0 v1 v2 v3 v4 v5 v6 x6 r1 r2 hcm hor e1 e6
     by_cases ho0:ov=0
     ·subst ho0
      go_wp2
      go_meet
      exact⟨K5.out.below BZ.out,FxBox.below F5.out BZ.out,HOE.out⟩
     ·have HV:Hid (R=ov):=by
       have h1:fe=ov:=by rw[HLE.out,if_neg ho0]
       have h2:allE (fx1E D.hd.la D.hd.lo D.fx) n=ov:=by rw[hfs.out,fsE_hit hlt (by rw[HFE.out,h1];exact ho0),HFE.out,h1]
       unfold Hid;rw[HE.out,h2,if_neg ho0]
      have e0:(ov != 0)=true:=bne_iff_ne.2 ho0
      have BE:=Lib.hid (K5.out.below BZ.out).be
      clear ho0
      go_wp2
      go_ret
      exact⟨ret_int HV.out.symm,BE.out⟩
   case rest =>
    obtain⟨hK6,hF6,hz6⟩:=hcut
    rw[hz6.out,if_pos rfl] at HLE
    obtain⟨y0,y1,y2,y3,y4,y5,y6⟩:=hF6.out.cells
    have yl:=lt_heap hF6.out
    obtain⟨⟨x0,x1,x2,x3,x4,x5,x6,x7,x8⟩,_⟩:=Bx.cells9 hK6.out.x1
    have xl:=Bx.lt hK6.out.x1
    obtain⟨⟨d0,d1,d2⟩,_⟩:=hK6.out.x5.cells3
    obtain⟨⟨g0,g1,g2⟩,_⟩:=hK6.out.x4.cells3
    have dl:=Bx.lt hK6.out.x5
    have gl:=Bx.lt hK6.out.x4
    have pl:=fun W (h1:IxL c1 c2 c3 (D.fx.take k) W) (h2:IxL b1 b2 b3 D.fx W)=>placedG_any c1 c2 c3 b1 b2 b3 _ _ f D.hd.la D.hd.lo W h1 h2 ⟨Nat.le_trans HSZ.out.1 (by unfold maxLen;omega),Nat.le_trans HSZ.out.2 (by unfold maxLen;omega),HFK.out⟩
    unfold ixV at pl
    obtain⟨pe,hpe⟩:∃e,plcE D.hd.la D.hd.lo f (D.fx.take k) D.fx=e:=⟨_,rfl⟩
    rw[hpe] at pl HLE
    have HPL:=Lib.hid pl
    clear hpe pl hz6
    go_wp2_with fail
    refine(HPL.out _ hK6.out.jx hK6.out.ix).mono ?_
    rintro e w7 ⟨rfl,hb7⟩
    have K7:=Lib.hid (hK6.out.below hb7)
    have F7:Hid (FxBox w7 q7 f):=(hb7.block q7 (lt_heap hF6.out)).trans hF6.out
    clear hb7 y0 y1 y2 y3 y4 y5 y6 yl x0 x1 x2 x3 x4 x5 x6 x7 x8 xl d0 d1 d2 g0 g1 g2 dl gl HPL hK6 hF6
    by_cases hp0:pe=0
    case neg =>
     have HV:Hid (R=pe):=by
      have h1:fe=pe:=HLE.out
      have h2:allE (fx1E D.hd.la D.hd.lo D.fx) n=pe:=by rw[hfs.out,fsE_hit hlt (by rw[HFE.out,h1];exact hp0),HFE.out,h1]
      unfold Hid;rw[HE.out,h2,if_neg hp0]
     have e0:(pe != 0)=true:=bne_iff_ne.2 hp0
     have BE:=Lib.hid K7.out.be
     clear hp0
     go_wp2
     go_ret
     exact⟨ret_int HV.out.symm,BE.out⟩
    case pos =>
    have HFS:Hid (allE (fx1E D.hd.la D.hd.lo D.fx) n=fsE (fx1E D.hd.la D.hd.lo D.fx) (k+1) (n-(k+1))):=by
     unfold Hid;rw[hfs.out,fsE_step hlt (by rw[HFE.out,HLE.out];exact hp0)]
    subst hp0
    obtain⟨y0,y1,y2,y3,y4,y5,y6⟩:=F7.out.cells
    have yl:=lt_heap F7.out
    obtain⟨⟨d0,d1,d2⟩,_⟩:=K7.out.x5.cells3
    have dl:=Bx.lt K7.out.x5
    have hlk:(D.fx.take k).length≤400:=by rw[List.length_take];omega
    have had:=addG_any c1 c2 c3 (D.fx.take k) f w7 K7.out.jx (by omega) HSZ.out.1 HSZ.out.2 HFK.out
    unfold ixV at had
    rw[←HTK.out] at had
    have HAD:=Lib.hid had
    clear had hlk HTK
    go_wp2_with fail
    refine HAD.out.mono ?_
    rintro e w8 ⟨rfl,hj8,hf8⟩
    have K8:=Lib.hid (K7.out.add AP.out hj8 hf8)
    clear hj8 hf8 HAD y0 y1 y2 y3 y4 y5 y6 yl d0 d1 d2 dl
    go_wp2
    go_roundw
    case rel=>exact⟨k+1,hlt,by go_num,HFS,K8⟩
    case measure=>simp[intOf];omega
  ·have hki:¬(k:Int)<(n:Int):=by omega
   have HA:Hid (allE (fx1E D.hd.la D.hd.lo D.fx) n=0):=by unfold Hid;rw[hfs.out,fsE_end (by omega)]
   rw[HA.out,if_pos rfl] at HE
   have KF:=Lib.hid hck.out
   obtain⟨bf,hbf⟩:∃l,D.fx.take k=l:=⟨_,rfl⟩
   rw[hbf] at KF hck
   clear hfs hbf hlt hk HA
   go_wp2_with fail
   go_loopw [101] (fun iv wr=>∃k:Nat,k≤na∧iv=.int .i64 (k:Int)∧Hid (allE (aw1E D.fx D.aw) na=fsE (aw1E D.fx D.aw) k (na-k))∧Hid (Ck2 w D (.slice Af n cf) (.slice Aa na ca) (.slice Ap np cp) q4 q5 b1 b2 b3 c1 c2 c3 bf wr)) (fun iv _=>na-(intOf iv).toNat)
   case atStart=>exact⟨0,Nat.zero_le _,rfl,rfl,KF.out⟩
   case round =>
    obtain⟨k,hk,rfl,hfs,hck⟩:=hrel
    clear x0 x1 x2 x3 x4 x5 x6 x7 x8 xl KF hki
    obtain⟨⟨x0,x1,x2,x3,x4,x5,x6,x7,x8⟩,_⟩:=Bx.cells9 hck.out.x1
    have xl:=Bx.lt hck.out.x1
    by_cases hlt:k<na
    ·have hkl:k<D.aw.length:=by rw[HNA.out];exact hlt
     have HR:=Lib.hid (HH.out.aw.below hck.out.be)
     obtain⟨g,o,c',av,hA,hgl,hat,hnl,hps⟩:=AwsD.at_ (by have:=HR.out;rw[←HNA.out] at this;exact this:AwsD wr (.slice Aa D.aw.length ca) D.aw) hkl
     rw[HNA.out] at hA
     simp only[Value.slice.injEq,true_and] at hA
     obtain⟨rfl,rfl⟩:=hA
     have HLE:Hid (aw1E D.fx D.aw k=fstE [chkA D.aw[k].nm D.aw[k].ps,if k=0 then 0 else ordE (cmpS D.aw[k].nm (D.aw.getD (k-1) aw0).nm),if (D.aw[k].ps.all fun p=>rfsB D.fx p.ref)=true then 0 else 6]):=by
      unfold Hid aw1E;rw[getD_in hkl]
     obtain⟨x,hx⟩:∃x,D.aw[k]=x:=⟨_,rfl⟩
     rw[hx] at hat hnl hps HLE
     obtain⟨nm,ps⟩:=x
     simp only at hnl hps HLE
     obtain⟨fe,hfe⟩:∃e,aw1E D.fx D.aw k=e:=⟨_,rfl⟩
     rw[hfe,fst3] at HLE
     have HFE:=Lib.hid hfe
     obtain⟨y0,y1⟩:=hat
     simp only at y0
     obtain⟨Av,cv,rfl,hcv,hmv⟩:=hps.form
     unfold maxLen at hmv
     obtain⟨m,hm⟩:∃m,ps.length=m:=⟨_,rfl⟩
     have HPS:=Lib.hid hps
     rw[hm] at hcv y1 HPS
     have HM:=Lib.hid hm
     have HCA:Hid (∀W,PtsR W (.slice Av m cv) ps→Calls Tryz.prog 16 #[.agg #[.string (sb nm),.slice Av m cv]] W fun e w'=>e=.returned (.int .i64 (chkA nm ps))∧Below W.heap.size W w'):=fun W h=>by
      have:=check_any (sb nm) _ ps W h hnl
      rw[bl_sb] at this;exact this
     have hki:(k:Int)<(na:Int):=by omega
     obtain⟨wA,hwA⟩:∃W,wr.alloc (.cells #[.string (sb nm),.slice Av m cv] 48)=W:=⟨_,rfl⟩
     have BA:Hid (Below wr.heap.size wr wA):=by rw[←hwA];exact(Below.refl _ _).alloc (Nat.le_refl _) _
     obtain⟨q7,hq7⟩:∃q,wr.heap.size=q:=⟨_,rfl⟩
     have XA:Hid (Bx q7 #[.string (sb nm),.slice Av m cv] 48 wA):=by rw[←hwA,←hq7];exact Bx.last wr _ _
     have KA:=Lib.hid (hck.out.below BA.out)
     have PA:=Lib.hid (HPS.out.below BA.out)
     have HWA:=Lib.hid hwA
     have HQ7:=Lib.hid hq7
     clear hq7 hx hwA hck hnl hps HR x0 x1 x2 x3 x4 x5 x6 x7 x8 xl hfe hm HPS
     go_upto_region 25 with fail
     rw[HWA.out,HQ7.out]
     clear HWA y0 y1
     have y0:=XA.out.cell 0 (u:=.string (sb nm)) rfl
     have y1:=XA.out.cell 1 (u:=.slice Av m cv) rfl
     have yl:=XA.out.lt
     go_wp2_with fail
     refine(HCA.out _ PA.out).mono ?_
     rintro e w5 ⟨rfl,hb5⟩
     have K5:=Lib.hid (KA.out.below hb5)
     have X5:=Lib.hid (XA.out.via hb5)
     have P5:=Lib.hid (PA.out.below hb5)
     clear hb5 KA XA PA HCA y0 y1 yl
     obtain⟨fc,hfc⟩:∃e,chkA nm ps=e:=⟨_,rfl⟩
     rw[hfc] at HLE
     rw[hfc]
     clear hfc
     by_cases hc0:fc=0
     case neg =>
      have HV:Hid (R=fc):=by
       have h1:fe=fc:=by rw[HLE.out,if_neg hc0]
       have h2:allE (aw1E D.fx D.aw) na=fc:=by rw[hfs.out,fsE_hit hlt (by rw[HFE.out,h1];exact hc0),HFE.out,h1]
       unfold Hid;rw[HE.out,h2,if_neg hc0]
      have e0:(fc != 0)=true:=bne_iff_ne.2 hc0
      have BE:=Lib.hid K5.out.be
      clear hc0
      go_wp2
      go_ret
      exact⟨ret_int HV.out.symm,BE.out⟩
     case pos =>
     subst hc0
     rw[if_pos rfl] at HLE
     go_upto_if 112 with (fail)
     go_cut [14] (fun _ wx=>Hid (Ck2 w D (.slice Af n cf) (.slice (some ⟨g,o,none⟩) na ca) (.slice Ap np cp) q4 q5 b1 b2 b3 c1 c2 c3 bf wx)∧Hid (Bx q7 #[.string (sb nm),.slice Av m cv] 48 wx)∧Hid (PtsR wx (.slice Av m cv) ps)∧Hid ((if k=0 then 0 else ordE (cmpS nm (D.aw.getD (k-1) aw0).nm))=0))
     case first =>
      rcases Nat.eq_zero_or_pos k with h0|h0
      ·have h0i:¬(0:Int)<(k:Int):=by omega
       have HZ0:Hid ((if k=0 then 0 else ordE (cmpS nm (D.aw.getD (k-1) aw0).nm))=0):=by unfold Hid;rw[if_pos h0]
       clear h0
       go_wp2
       go_meet
       exact⟨K5.out,X5.out,P5.out,HZ0.out⟩
      ·have h0i:(0:Int)<(k:Int):=by omega
       obtain⟨j,hj⟩:∃j,k=j+1:=⟨k-1,by omega⟩
       subst hj
       have HR5:=Lib.hid (HH.out.aw.below K5.out.be)
       have hjl:j<D.aw.length:=by rw[HNA.out];omega
       obtain⟨g',o',c'',bv,hA5,hgl5,hatp,hnlp,hpsp⟩:=AwsD.at_ (by have:=HR5.out;rw[←HNA.out] at this;exact this:AwsD w5 (.slice (some ⟨g,o,none⟩) D.aw.length ca) D.aw) hjl
       rw[HNA.out] at hA5
       simp only[Value.slice.injEq,Option.some.injEq,Addr.mk.injEq,true_and,and_true] at hA5
       obtain⟨⟨rfl,rfl⟩,rfl⟩:=hA5
       have HOE:Hid ((if j+1=0 then 0 else ordE (cmpS nm (D.aw.getD (j+1-1) aw0).nm))=ordE (cmpS nm D.aw[j].nm)):=by unfold Hid;rw[if_neg (by omega),show j+1-1=j by omega,getD_in hjl]
       rw[HOE.out] at HLE
       obtain⟨pn,hp⟩:∃p,D.aw[j].nm=p:=⟨_,rfl⟩
       obtain⟨p0,p1⟩:=hatp
       rw[hp] at p0 HLE HOE
       have gl5:=hgl5
       have z0:=fun pb:BelBy w5=>(pb.h.cell (p:=⟨g,o+j*2,none⟩) gl5).trans p0
       have v0:=fun pb:BelBy w5=>(X5.out.via pb.h).cell 0 (u:=.string (sb nm)) rfl
       have x7:=fun pb:BelBy w5=>(K5.out.x1.via pb.h).cell 7 (u:=.slice (some ⟨g,o,none⟩) na ca) rfl
       obtain⟨cv',hcv'⟩:∃x,cmpS nm pn=x:=⟨_,rfl⟩
       have hcm:=fun W=>(cmpStr_any (sb nm) (sb pn) W).mono (R':=fun e w'=>e=.returned (.int .i64 cv')∧Below W.heap.size W w') (fun e w' h=>⟨by rw[h.1,bl_sb,bl_sb,hcv'],by rw[h.2];exact Below.refl _ _⟩)
       rw[hcv'] at HLE HOE
       obtain⟨ov,hov⟩:∃x,ordE cv'=x:=⟨_,rfl⟩
       have hor:=fun W=>(norder_any cv' W).mono (R':=fun e w'=>e=.returned (.int .i64 ov)∧Below W.heap.size W w') (fun e w' h=>⟨by rw[h.1,←hov];rfl,by rw[←h.2];exact Below.refl _ _⟩)
       rw[hov] at HLE HOE
       have e6:IntKind.i64.wrap (j:Int)=(j:Int):=IntWalk.i64_in _ (by omega)
       have e1:IntKind.i64.wrap ((j:Int)+1-1)=(j:Int):=by rw[show(j:Int)+1-1=(j:Int) by omega];exact e6
       have e4:(j:Int)<(na:Int):=by omega
       clear h0 hp hgl5 p0 p1 HR5 hcv' hov hnlp hpsp
       go_upto_region 29 with fail
       refine wp_region_quiet_bel (by kernel_rfl) (by kernel_rfl) ?_
       repeat(quiet_step (first|(go_at_call 43;with_reducible exact Calls.bel_of (hcm _))|(go_at_call 42;with_reducible exact Calls.bel_of (hor _))))
       refine wpQuiet_nil ?_
       rintro wz ⟨pw,hwz⟩
       have BZ:Hid (Below w5.heap.size w5 wz):=by rw[hwz];exact pw.h
       clear hwz pw z0 v0 x7 hcm hor e1 e6
       by_cases ho0:ov=0
       ·subst ho0
        go_wp2
        go_meet
        exact⟨K5.out.below BZ.out,X5.out.via BZ.out,P5.out.below BZ.out,HOE.out⟩
       ·have HV:Hid (R=ov):=by
         have h1:fe=ov:=by rw[HLE.out,if_neg ho0]
         have h2:allE (aw1E D.fx D.aw) na=ov:=by rw[hfs.out,fsE_hit hlt (by rw[HFE.out,h1];exact ho0),HFE.out,h1]
         unfold Hid;rw[HE.out,h2,if_neg ho0]
        have e0:(ov != 0)=true:=bne_iff_ne.2 ho0
        have BE:=Lib.hid (K5.out.below BZ.out).be
        clear ho0
        go_wp2
        go_ret
        exact⟨ret_int HV.out.symm,BE.out⟩
     case rest =>
      obtain⟨hK6,hX6,hP6,hz6⟩:=hcut
      rw[hz6.out,if_pos rfl] at HLE
      have y1:=hX6.out.cell 1 (u:=.slice Av m cv) rfl
      have yl:=hX6.out.lt
      have HRF:Hid (∀p∈ps,p.ref.length≤maxLen):=fun p hp=>(hP6.out.2 p hp).1
      clear hz6
      go_wp2_with fail
      go_loopw [130] (fun iv wx=>∃i:Nat,i≤m∧iv=.int .i64 (i:Int)∧Hid ((ps.all fun p=>rfsB D.fx p.ref)=((ps.drop i).all fun p=>rfsB D.fx p.ref))∧Hid (Ck2 w D (.slice Af n cf) (.slice (some ⟨g,o,none⟩) na ca) (.slice Ap np cp) q4 q5 b1 b2 b3 c1 c2 c3 bf wx)∧Hid (PtsR wx (.slice Av m cv) ps)) (fun iv _=>m-(intOf iv).toNat)
      case atStart=>exact⟨0,Nat.zero_le _,rfl,rfl,hK6.out,hP6.out⟩
      case round =>
       obtain⟨i,hi,rfl,hal,hck,hpx⟩:=hrel
       clear y1 yl hK6 hX6 hP6
       by_cases hlm:i<m
       ·have hil:i<ps.length:=by rw[HM.out];exact hlm
        obtain⟨g2,o2,c2',hA2,hgl2,u0,u1,u2,u3⟩:=PtsR.at_ (by have:=hpx.out;rw[←HM.out] at this;exact this:PtsR wr (.slice Av ps.length cv) ps) hil
        rw[HM.out] at hA2
        simp only[Value.slice.injEq,true_and] at hA2
        obtain⟨rfl,rfl⟩:=hA2
        have hrl:=HRF.out _ (List.getElem_mem hil)
        have HAS:Hid (((ps.drop i).all fun p=>rfsB D.fx p.ref)=(rfsB D.fx ps[i].ref&&((ps.drop (i+1)).all fun p=>rfsB D.fx p.ref))):=by
         unfold Hid;rw[List.drop_eq_getElem_cons hil,List.all_cons]
        obtain⟨p,hp⟩:∃p,ps[i]=p:=⟨_,rfl⟩
        rw[hp] at u0 u1 u2 u3 hrl HAS
        obtain⟨pr,pl,ph,pd⟩:=p
        simp only at u0 u1 u2 u3 hrl HAS
        have him:(i:Int)<(m:Int):=by omega
        obtain⟨wB,hwB⟩:∃W,wr.alloc (.cells #[.string (sb pr),.int .i64 pl,.int .i64 ph,.int .u8 (pd:Int)] 53)=W:=⟨_,rfl⟩
        have BB:Hid (Below wr.heap.size wr wB):=by rw[←hwB];exact(Below.refl _ _).alloc (Nat.le_refl _) _
        obtain⟨q8,hq8⟩:∃q,wr.heap.size=q:=⟨_,rfl⟩
        have XB:Hid (Bx q8 #[.string (sb pr),.int .i64 pl,.int .i64 ph,.int .u8 (pd:Int)] 53 wB):=by rw[←hwB,←hq8];exact Bx.last wr _ _
        have KB:=Lib.hid (hck.out.below BB.out)
        have PB:=Lib.hid (hpx.out.below BB.out)
        obtain⟨v,hv⟩:∃v,rfsB D.fx pr=v:=⟨_,rfl⟩
        rw[hv] at HAS
        have HWB:=Lib.hid hwB
        have HQ8:=Lib.hid hq8
        have HLK:=Lib.hid (KB.out.ix.r.lookB hrl hv)
        clear hwB hq8 hck hpx hrl hp hv
        go_upto_region 35 with fail
        rw[HWB.out,HQ8.out]
        clear HWB u0 u1 u2 u3
        have u0:=XB.out.cell 0 (u:=.string (sb pr)) rfl
        have ul:=XB.out.lt
        have g0:=KB.out.x4.cell 0 (u:=.map (some b1)) rfl
        have gl:=KB.out.x4.lt
        have hlk:=HLK.out
        clear HLK
        cases v with
        | false =>
         have HV:Hid (R=6):=by
          have h1:fe=6:=by rw[HLE.out,hal.out,HAS.out,if_neg (by simp)]
          have h2:allE (aw1E D.fx D.aw) na=6:=by rw[hfs.out,fsE_hit hlt (by rw[HFE.out,h1];decide),HFE.out,h1]
          unfold Hid;rw[HE.out,h2,if_neg (by decide)]
         have BE:=Lib.hid KB.out.be
         go_wp2
         go_ret
         exact⟨ret_int HV.out.symm,BE.out⟩
        | true =>
         have HAL:Hid ((ps.all fun p=>rfsB D.fx p.ref)=((ps.drop (i+1)).all fun p=>rfsB D.fx p.ref)):=by
          unfold Hid;rw[hal.out,HAS.out,Bool.true_and]
         go_wp2
         go_roundw
         case rel=>exact⟨i+1,hlm,by go_num,HAL,KB,PB⟩
         case measure=>simp[intOf];omega
       ·have him:¬(i:Int)<(m:Int):=by omega
        have HFS:Hid (allE (aw1E D.fx D.aw) na=fsE (aw1E D.fx D.aw) (k+1) (na-(k+1))):=by
         have h1:fe=0:=by rw[HLE.out,hal.out,List.drop_of_length_le (by rw[HM.out];omega)];rfl
         unfold Hid;rw[hfs.out,fsE_step hlt (by rw[HFE.out,h1])]
        have KB:=Lib.hid hck.out
        clear hal hck hpx
        go_wp2
        go_roundw
        case rel=>exact⟨k+1,hlt,by go_num,HFS,KB⟩
        case measure=>simp[intOf];omega
    ·have hki:¬(k:Int)<(na:Int):=by omega
     have HA:Hid (allE (aw1E D.fx D.aw) na=0):=by unfold Hid;rw[hfs.out,fsE_end (by omega)]
     rw[HA.out,if_pos rfl] at HE
     have KF:=Lib.hid hck.out
     clear hfs hlt hk HA
     go_wp2_with fail
     go_loopw [145] (fun iv wr=>∃k:Nat,k≤np∧iv=.int .i64 (k:Int)∧Hid (allE (pr1E D.fx D.pr) np=fsE (pr1E D.fx D.pr) k (np-k))∧Hid (Ck2 w D (.slice Af n cf) (.slice Aa na ca) (.slice Ap np cp) q4 q5 b1 b2 b3 c1 c2 c3 bf wr)) (fun iv _=>np-(intOf iv).toNat)
     case atStart=>exact⟨0,Nat.zero_le _,rfl,rfl,KF.out⟩
     case round =>
      obtain⟨k,hk,rfl,hfs,hck⟩:=hrel
      clear x0 x1 x2 x3 x4 x5 x6 x7 x8 xl KF hki
      obtain⟨⟨x0,x1,x2,x3,x4,x5,x6,x7,x8⟩,_⟩:=Bx.cells9 hck.out.x1
      have xl:=Bx.lt hck.out.x1
      by_cases hlt:k<np
      ·have hkl:k<D.pr.length:=by rw[HNP.out];exact hlt
       have HR:=Lib.hid (HH.out.pr.below hck.out.be)
       obtain⟨g,o,c',pv,hA,hgl,hat,hap,hnm,hkd,hpa⟩:=PrcsR.at_ (by have:=HR.out;rw[←HNP.out] at this;exact this:PrcsR wr (.slice Ap D.pr.length cp) D.pr) hkl
       rw[HNP.out] at hA
       simp only[Value.slice.injEq,true_and] at hA
       obtain⟨rfl,rfl⟩:=hA
       have HLE:Hid (pr1E D.fx D.pr k=fstE [prcE D.pr[k],if k=0 then 0 else ordE (cmpP D.pr[k] (D.pr.getD (k-1) pr0)),if aptB D.fx (D.pr[k]).ap=true then 0 else 6,if ((D.pr[k]).pa.all fun x=>rwOk D.fx D.pr[k] x)=true then 0 else 6,if ((D.pr[k]).pa.all fun x=>x.lg.all fun g=>lgOkB D.fx g)=true then 0 else 6]):=by
        unfold Hid pr1E;rw[getD_in hkl]
       have hsz:=HZ.out.pr _ (List.getElem_mem hkl)
       obtain⟨x,hx⟩:∃x,D.pr[k]=x:=⟨_,rfl⟩
       rw[hx] at hat hap hnm hkd hpa HLE hsz
       obtain⟨ap,nm,kd,pa⟩:=x
       simp only at hap hnm hkd hpa hsz
       obtain⟨fe,hfe⟩:∃e,pr1E D.fx D.pr k=e:=⟨_,rfl⟩
       rw[hfe,fst5] at HLE
       have HFE:=Lib.hid hfe
       obtain⟨y0,y1,y2,y3⟩:=hat
       simp only at y0 y1 y2
       obtain⟨Av,cv,rfl,hcv,hmv⟩:=hpa.form
       unfold maxLen at hmv
       obtain⟨m,hm⟩:∃m,pa.length=m:=⟨_,rfl⟩
       have HPS:=Lib.hid hpa
       rw[hm] at hcv y3 HPS
       have HM:=Lib.hid hm
       have HCA:Hid (∀W,LegT W→PasR W (.slice Av m cv) pa→Calls Tryz.prog 17 #[.agg #[.string (sb ap),.string (sb nm),.int .u8 (kd:Int),.slice Av m cv]] W fun e w'=>e=.returned (.int .i64 (prcE ⟨ap,nm,kd,pa⟩))∧Below W.heap.size W w'):=fun W hT h =>
        prcCheck_any (.slice Av m cv) ⟨ap,nm,kd,pa⟩ W hT h hkd hap hnm hsz.2 hsz.1
       have HAPL:=Lib.hid hap
       have hki:(k:Int)<(np:Int):=by omega
       obtain⟨wA,hwA⟩:∃W,wr.alloc (.cells #[.string (sb ap),.string (sb nm),.int .u8 (kd:Int),.slice Av m cv] 57)=W:=⟨_,rfl⟩
       have BA:Hid (Below wr.heap.size wr wA):=by rw[←hwA];exact(Below.refl _ _).alloc (Nat.le_refl _) _
       obtain⟨q7,hq7⟩:∃q,wr.heap.size=q:=⟨_,rfl⟩
       have XA:Hid (Bx q7 #[.string (sb ap),.string (sb nm),.int .u8 (kd:Int),.slice Av m cv] 57 wA):=by rw[←hwA,←hq7];exact Bx.last wr _ _
       have KA:=Lib.hid (hck.out.below BA.out)
       have PA:=Lib.hid (HPS.out.below BA.out)
       have HWA:=Lib.hid hwA
       have HQ7:=Lib.hid hq7
       clear hq7 hx hwA hck hap hnm hpa hsz HR x0 x1 x2 x3 x4 x5 x6 x7 x8 xl hfe hm HPS
       go_upto_region 42 with fail
       rw[HWA.out,HQ7.out]
       clear HWA y0 y1 y2 y3
       obtain⟨y0,y1,y2,y3⟩:=XA.out.cells4
       have yl:=XA.out.lt
       go_wp2_with fail
       refine(HCA.out _ (HT.out.below KA.out.be) PA.out).mono ?_
       rintro e w5 ⟨rfl,hb5⟩
       have K5:=Lib.hid (KA.out.below hb5)
       have X5:=Lib.hid (XA.out.via hb5)
       have P5:=Lib.hid (PA.out.below hb5)
       clear hb5 KA XA PA HCA y0 y1 y2 y3 yl
       obtain⟨fc,hfc⟩:∃e,prcE ⟨ap,nm,kd,pa⟩=e:=⟨_,rfl⟩
       rw[hfc] at HLE
       rw[hfc]
       have HFC:=Lib.hid hfc
       clear hfc
       by_cases hc0:fc=0
       case neg =>
        have HV:Hid (R=fc):=by
         have h1:fe=fc:=by rw[HLE.out,if_neg hc0]
         have h2:allE (pr1E D.fx D.pr) np=fc:=by rw[hfs.out,fsE_hit hlt (by rw[HFE.out,h1];exact hc0),HFE.out,h1]
         unfold Hid;rw[HE.out,h2]
        have e0:(fc != 0)=true:=bne_iff_ne.2 hc0
        have BE:=Lib.hid K5.out.be
        clear hc0
        go_wp2
        go_ret
        exact⟨ret_int HV.out.symm,BE.out⟩
       case pos =>
       subst hc0
       rw[if_pos rfl] at HLE
       have HNM:=Lib.hid (prc_names HFC.out)
       simp only at HNM
       go_upto_if 156 with (fail)
       go_cut [20] (fun _ wx=>Hid (Ck2 w D (.slice Af n cf) (.slice Aa na ca) (.slice (some ⟨g,o,none⟩) np cp) q4 q5 b1 b2 b3 c1 c2 c3 bf wx)∧Hid (Bx q7 #[.string (sb ap),.string (sb nm),.int .u8 (kd:Int),.slice Av m cv] 57 wx)∧Hid (PasR wx (.slice Av m cv) pa)∧Hid ((if k=0 then 0 else ordE (cmpP ⟨ap,nm,kd,pa⟩ (D.pr.getD (k-1) pr0)))=0))
       case first =>
        rcases Nat.eq_zero_or_pos k with h0|h0
        ·have h0i:¬(0:Int)<(k:Int):=by omega
         have HZ0:Hid ((if k=0 then 0 else ordE (cmpP ⟨ap,nm,kd,pa⟩ (D.pr.getD (k-1) pr0)))=0):=by unfold Hid;rw[if_pos h0]
         clear h0
         go_wp2
         go_meet
         exact⟨K5.out,X5.out,P5.out,HZ0.out⟩
        ·have h0i:(0:Int)<(k:Int):=by omega
         obtain⟨j,hj⟩:∃j,k=j+1:=⟨k-1,by omega⟩
         subst hj
         have HR5:=Lib.hid (HH.out.pr.below K5.out.be)
         have hjl:j<D.pr.length:=by rw[HNP.out];omega
         obtain⟨g',o',c'',qv,hA5,hgl5,hatp,hap2,hnm2,hkd2,hpa2⟩:=PrcsR.at_ (by have:=HR5.out;rw[←HNP.out] at this;exact this:PrcsR w5 (.slice (some ⟨g,o,none⟩) D.pr.length cp) D.pr) hjl
         rw[HNP.out] at hA5
         simp only[Value.slice.injEq,Option.some.injEq,Addr.mk.injEq,true_and,and_true] at hA5
         obtain⟨⟨rfl,rfl⟩,rfl⟩:=hA5
         have HOE:Hid ((if j+1=0 then 0 else ordE (cmpP ⟨ap,nm,kd,pa⟩ (D.pr.getD (j+1-1) pr0)))=ordE (cmpP ⟨ap,nm,kd,pa⟩ D.pr[j])):=by unfold Hid;rw[if_neg (by omega),show j+1-1=j by omega,getD_in hjl]
         rw[HOE.out] at HLE
         obtain⟨q,hq⟩:∃p,D.pr[j]=p:=⟨_,rfl⟩
         rw[hq] at hatp hpa2 HLE HOE
         obtain⟨ap',nm',kd',pa'⟩:=q
         obtain⟨p0,p1,p2,p3⟩:=hatp
         simp only at p0 p1 p2 hpa2
         obtain⟨Aw,cw,rfl,_,_⟩:=hpa2.form
         have gl5:=hgl5
         have z0:=fun pb:BelBy w5=>(pb.h.cell (p:=⟨g,o+j*4,none⟩) gl5).trans p0
         have z1:=fun pb:BelBy w5=>(pb.h.cell (p:=⟨g,o+j*4+1,none⟩) gl5).trans p1
         have z2:=fun pb:BelBy w5=>(pb.h.cell (p:=⟨g,o+j*4+2,none⟩) gl5).trans p2
         have z3:=fun pb:BelBy w5=>(pb.h.cell (p:=⟨g,o+j*4+3,none⟩) gl5).trans p3
         have v0:=fun pb:BelBy w5=>(X5.out.via pb.h).cells4.1
         have v1:=fun pb:BelBy w5=>(X5.out.via pb.h).cells4.2.1
         have v2:=fun pb:BelBy w5=>(X5.out.via pb.h).cells4.2.2.1
         have v3:=fun pb:BelBy w5=>(X5.out.via pb.h).cells4.2.2.2
         have x8:=fun pb:BelBy w5=>(K5.out.x1.via pb.h).cell 8 (u:=.slice (some ⟨g,o,none⟩) np cp) rfl
         have hcm:=fun W=>pcompare_any (.slice Av m cv) (.slice Aw pa'.length cw) ⟨ap,nm,kd,pa⟩ ⟨ap',nm',kd',pa'⟩ W rfl rfl
         unfold prc at hcm
         simp only at hcm
         obtain⟨cv',hcv'⟩:∃x,cmpP ⟨ap,nm,kd,pa⟩ ⟨ap',nm',kd',pa'⟩=x:=⟨_,rfl⟩
         rw[hcv'] at HLE HOE hcm
         obtain⟨ov,hov⟩:∃x,ordE cv'=x:=⟨_,rfl⟩
         have hor:=fun W=>(norder_any cv' W).mono (R':=fun e w'=>e=.returned (.int .i64 ov)∧Below W.heap.size W w') (fun e w' h=>⟨by rw[h.1,←hov];rfl,by rw[←h.2];exact Below.refl _ _⟩)
         rw[hov] at HLE HOE
         have e6:IntKind.i64.wrap (j:Int)=(j:Int):=IntWalk.i64_in _ (by omega)
         have e1:IntKind.i64.wrap ((j:Int)+1-1)=(j:Int):=by rw[show(j:Int)+1-1=(j:Int) by omega];exact e6
         have e4:(j:Int)<(np:Int):=by omega
         clear h0 hq hgl5 p0 p1 p2 p3 HR5 hcv' hov hap2 hnm2 hkd2 hpa2
         go_upto_region 46 with fail
         refine wp_region_quiet_bel (by kernel_rfl) (by kernel_rfl) ?_
         repeat(quiet_step (first|(go_at_call 46;with_reducible exact Calls.bel_of (hcm _))|(go_at_call 42;with_reducible exact Calls.bel_of (hor _))))
         refine wpQuiet_nil ?_
         rintro wz ⟨pw,hwz⟩
         have BZ:Hid (Below w5.heap.size w5 wz):=by rw[hwz];exact pw.h
         clear hwz pw z0 z1 z2 z3 v0 v1 v2 v3 x8 hcm hor e1 e6
         by_cases ho0:ov=0
         ·subst ho0
          go_wp2
          go_meet
          exact⟨K5.out.below BZ.out,X5.out.via BZ.out,P5.out.below BZ.out,HOE.out⟩
         ·have HV:Hid (R=ov):=by
           have h1:fe=ov:=by rw[HLE.out,if_neg ho0]
           have h2:allE (pr1E D.fx D.pr) np=ov:=by rw[hfs.out,fsE_hit hlt (by rw[HFE.out,h1];exact ho0),HFE.out,h1]
           unfold Hid;rw[HE.out,h2]
          have e0:(ov != 0)=true:=bne_iff_ne.2 ho0
          have BE:=Lib.hid (K5.out.below BZ.out).be
          clear ho0
          go_wp2
          go_ret
          exact⟨ret_int HV.out.symm,BE.out⟩
       case rest =>
        obtain⟨hK6,hX6,hP6,hz6⟩:=hcut
        rw[hz6.out,if_pos rfl] at HLE
        have HBAD:Hid (fe=6→R=6):=fun h1=>by
         have h2:allE (pr1E D.fx D.pr) np=6:=by rw[hfs.out,fsE_hit hlt (by rw[HFE.out,h1];decide),HFE.out,h1]
         rw[HE.out,h2]
        have HGOOD:Hid (fe=0→allE (pr1E D.fx D.pr) np=fsE (pr1E D.fx D.pr) (k+1) (np-(k+1))):=fun h1=>by
         rw[hfs.out,fsE_step hlt (by rw[HFE.out,h1])]
        obtain⟨y0,y1,y2,y3⟩:=hX6.out.cells4
        have yl:=hX6.out.lt
        have g1:=hK6.out.x4.cell 1 (u:=.map (some b2)) rfl
        have gl:=hK6.out.x4.lt
        obtain⟨v,hv⟩:∃v,aptB D.fx ap=v:=⟨_,rfl⟩
        have hlk:=hK6.out.ix.a.lookB HAPL.out hv
        rw[hv] at HLE
        clear hz6 hv
        cases v with
        | false =>
         have HV:Hid (R=6):=HBAD.out (by rw[HLE.out];rfl)
         have BE:=Lib.hid hK6.out.be
         go_wp2
         go_ret
         exact⟨ret_int HV.out.symm,BE.out⟩
        | true =>
        rw[if_pos rfl,if_pos rfl] at HLE
        go_wp2_with fail
        clear hlk g1 gl
        go_loopw [178] (fun iv wx=>∃i:Nat,i≤m∧iv=.int .i64 (i:Int)∧Hid ((pa.all fun x=>rwOk D.fx ⟨ap,nm,kd,pa⟩ x)=((pa.drop i).all fun x=>rwOk D.fx ⟨ap,nm,kd,pa⟩ x))∧Hid (Ck2 w D (.slice Af n cf) (.slice Aa na ca) (.slice (some ⟨g,o,none⟩) np cp) q4 q5 b1 b2 b3 c1 c2 c3 bf wx)∧Hid (Bx q7 #[.string (sb ap),.string (sb nm),.int .u8 (kd:Int),.slice Av m cv] 57 wx)∧Hid (PasR wx (.slice Av m cv) pa)) (fun iv _=>m-(intOf iv).toNat)
        case atStart=>exact⟨0,Nat.zero_le _,rfl,rfl,hK6.out,hX6.out,hP6.out⟩
        case round =>
         obtain⟨i,hi,rfl,hal,hck,hxx,hpx⟩:=hrel
         clear y0 y1 y2 y3 yl hK6 hX6 hP6
         by_cases hlm:i<m
         ·have hil:i<pa.length:=by rw[HM.out];exact hlm
          obtain⟨g2,o2,c2',lv,hA2,hgl2,hpt,hxn,hxk,hlg⟩:=PasR.at_ (by have:=hpx.out;rw[←HM.out] at this;exact this:PasR wr (.slice Av pa.length cv) pa) hil
          rw[HM.out] at hA2
          simp only[Value.slice.injEq,true_and] at hA2
          obtain⟨rfl,rfl⟩:=hA2
          have hx5:=HNM.out.2.2 _ (List.getElem_mem hil)
          have HAS:Hid (((pa.drop i).all fun x=>rwOk D.fx ⟨ap,nm,kd,pa⟩ x)=(rwOk D.fx ⟨ap,nm,kd,pa⟩ pa[i]&&((pa.drop (i+1)).all fun x=>rwOk D.fx ⟨ap,nm,kd,pa⟩ x))):=by
           unfold Hid;rw[List.drop_eq_getElem_cons hil,List.all_cons]
          obtain⟨x,hx⟩:∃x,pa[i]=x:=⟨_,rfl⟩
          rw[hx] at hpt hxn hxk hlg hx5 HAS
          obtain⟨xk,xn,xl⟩:=x
          obtain⟨u0,u1,u2⟩:=hpt
          simp only at u0 u1 hxn hxk hlg hx5
          obtain⟨Al,cl,rfl,_,_⟩:=hlg.form
          have him:(i:Int)<(m:Int):=by omega
          obtain⟨wB,hwB⟩:∃W,wr.alloc (.cells #[.int .u8 (xk:Int),.string (sb xn),.slice Al xl.length cl] 62)=W:=⟨_,rfl⟩
          have BB:Hid (Below wr.heap.size wr wB):=by rw[←hwB];exact(Below.refl _ _).alloc (Nat.le_refl _) _
          obtain⟨q8,hq8⟩:∃q,wr.heap.size=q:=⟨_,rfl⟩
          have XB:Hid (Bx q8 #[.int .u8 (xk:Int),.string (sb xn),.slice Al xl.length cl] 62 wB):=by rw[←hwB,←hq8];exact Bx.last wr _ _
          have KB:=Lib.hid (hck.out.below BB.out)
          have XQ:=Lib.hid (hxx.out.via BB.out)
          have PB:=Lib.hid (hpx.out.below BB.out)
          have HWB:=Lib.hid hwB
          have HQ8:=Lib.hid hq8
          have hrw:=fun W (h:IxL b1 b2 b3 D.fx W)=>runwayG_any b1 b2 b3 D.fx (.slice (some ⟨g2,o2,none⟩) m cv) (.slice Al xl.length cl) ⟨ap,nm,kd,pa⟩ ⟨xk,xn,xl⟩ W h HNM.out.1 hx5 rfl rfl
          unfold prc pac ixV at hrw
          simp only at hrw
          obtain⟨v,hv⟩:∃v,rwOk D.fx ⟨ap,nm,kd,pa⟩ ⟨xk,xn,xl⟩=v:=⟨_,rfl⟩
          rw[hv] at HAS hrw
          have HRW:=Lib.hid hrw
          clear hwB hq8 hck hpx hxx hx hv hrw hlg hxn hxk hx5
          go_upto_region 54 with fail
          rw[HWB.out,HQ8.out]
          clear HWB u0 u1 u2
          obtain⟨⟨u0,u1,u2⟩,_⟩:=XB.out.cells3
          have ul:=XB.out.lt
          obtain⟨y0,y1,y2,y3⟩:=XQ.out.cells4
          have yl:=XQ.out.lt
          obtain⟨⟨g0,g1,g3⟩,_⟩:=KB.out.x4.cells3
          have gl:=KB.out.x4.lt
          go_wp2_with fail
          refine(HRW.out _ KB.out.ix).mono ?_
          rintro e wC ⟨rfl,hbC⟩
          have KC:=Lib.hid (KB.out.below hbC)
          have XC:=Lib.hid (XQ.out.via hbC)
          have PC:=Lib.hid (PB.out.below hbC)
          clear hbC u0 u1 u2 ul y0 y1 y2 y3 yl g0 g1 g3 gl KB XQ PB HRW XB
          cases v with
          | false =>
           have HV:Hid (R=6):=HBAD.out (by rw[HLE.out,hal.out,HAS.out];rfl)
           have BE:=Lib.hid KC.out.be
           go_wp2
           go_ret
           exact⟨ret_int HV.out.symm,BE.out⟩
          | true =>
           have HAL:Hid ((pa.all fun x=>rwOk D.fx ⟨ap,nm,kd,pa⟩ x)=((pa.drop (i+1)).all fun x=>rwOk D.fx ⟨ap,nm,kd,pa⟩ x)):=by
            unfold Hid;rw[hal.out,HAS.out,Bool.true_and]
           go_wp2
           go_roundw
           case rel=>exact⟨i+1,hlm,by go_num,HAL,KC,XC,PC⟩
           case measure=>simp[intOf];omega
         ·have him:¬(i:Int)<(m:Int):=by omega
          have h1:(pa.all fun x=>rwOk D.fx ⟨ap,nm,kd,pa⟩ x)=true:=by rw[hal.out,List.drop_of_length_le (by rw[HM.out];omega)];rfl
          rw[h1,if_pos rfl,if_pos rfl] at HLE
          clear h1 hal hlm hi
          obtain⟨y0,y1,y2,y3⟩:=hxx.out.cells4
          have yl:=hxx.out.lt
          go_wp2_with fail
          go_loopw [193] (fun iv wx=>∃i:Nat,i≤m∧iv=.int .i64 (i:Int)∧Hid ((pa.all fun x=>x.lg.all fun g=>lgOkB D.fx g)=((pa.drop i).all fun x=>x.lg.all fun g=>lgOkB D.fx g))∧Hid (Ck2 w D (.slice Af n cf) (.slice Aa na ca) (.slice (some ⟨g,o,none⟩) np cp) q4 q5 b1 b2 b3 c1 c2 c3 bf wx)∧Hid (PasR wx (.slice Av m cv) pa)) (fun iv _=>m-(intOf iv).toNat)
          case atStart=>exact⟨0,Nat.zero_le _,rfl,rfl,hck.out,hpx.out⟩
          case round =>
           clear y0 y1 y2 y3 yl hck hxx hpx him
           obtain⟨i,hi,rfl,hal,hck,hpx⟩:=hrel
           by_cases hlm:i<m
           ·have hil:i<pa.length:=by rw[HM.out];exact hlm
            obtain⟨g2,o2,c2',lv,hA2,hgl2,hpt,hxn,hxk,hlg⟩:=PasR.at_ (by have:=hpx.out;rw[←HM.out] at this;exact this:PasR wr (.slice Av pa.length cv) pa) hil
            rw[HM.out] at hA2
            simp only[Value.slice.injEq,true_and] at hA2
            obtain⟨rfl,rfl⟩:=hA2
            have HAS:Hid (((pa.drop i).all fun x=>x.lg.all fun g=>lgOkB D.fx g)=((pa[i].lg.all fun g=>lgOkB D.fx g)&&((pa.drop (i+1)).all fun x=>x.lg.all fun g=>lgOkB D.fx g))):=by
             unfold Hid;rw[List.drop_eq_getElem_cons hil,List.all_cons]
            obtain⟨x,hx⟩:∃x,pa[i]=x:=⟨_,rfl⟩
            rw[hx] at hpt hxn hxk hlg HAS
            obtain⟨xk,xn,lg⟩:=x
            obtain⟨u0,u1,u2⟩:=hpt
            simp only at u0 u1 hxn hxk hlg HAS
            obtain⟨Al,cl,rfl,hcl,hml⟩:=hlg.form
            unfold maxLen at hml
            obtain⟨M,hM⟩:∃M,lg.length=M:=⟨_,rfl⟩
            have HLG:=Lib.hid hlg
            rw[hM] at u2 HLG hcl
            have HMM:=Lib.hid hM
            have him:(i:Int)<(m:Int):=by omega
            obtain⟨wB,hwB⟩:∃W,wr.alloc (.cells #[.int .u8 (xk:Int),.string (sb xn),.slice Al M cl] 62)=W:=⟨_,rfl⟩
            have BB:Hid (Below wr.heap.size wr wB):=by rw[←hwB];exact(Below.refl _ _).alloc (Nat.le_refl _) _
            obtain⟨q8,hq8⟩:∃q,wr.heap.size=q:=⟨_,rfl⟩
            have XB:Hid (Bx q8 #[.int .u8 (xk:Int),.string (sb xn),.slice Al M cl] 62 wB):=by rw[←hwB,←hq8];exact Bx.last wr _ _
            have KB:=Lib.hid (hck.out.below BB.out)
            have PB:=Lib.hid (hpx.out.below BB.out)
            have LB:=Lib.hid (HLG.out.below BB.out)
            have HWB:=Lib.hid hwB
            have HQ8:=Lib.hid hq8
            clear hwB hq8 hck hpx hx hlg hxn hxk hM HLG
            go_upto_region 61 with fail
            rw[HWB.out,HQ8.out]
            clear HWB u0 u1 u2
            have u2:=XB.out.cell 2 (u:=.slice Al M cl) rfl
            have ul:=XB.out.lt
            go_wp2_with fail
            go_loopw [200] (fun iv wx=>∃j:Nat,j≤M∧iv=.int .i64 (j:Int)∧Hid ((lg.all fun g=>lgOkB D.fx g)=((lg.drop j).all fun g=>lgOkB D.fx g))∧Hid (Ck2 w D (.slice Af n cf) (.slice Aa na ca) (.slice (some ⟨g,o,none⟩) np cp) q4 q5 b1 b2 b3 c1 c2 c3 bf wx)∧Hid (PasR wx (.slice (some ⟨g2,o2,none⟩) m cv) pa)∧Hid (LgsR wx (.slice Al M cl) lg)) (fun iv _=>M-(intOf iv).toNat)
            case atStart=>exact⟨0,Nat.zero_le _,rfl,rfl,KB.out,PB.out,LB.out⟩
            case round =>
             clear KB PB LB
             obtain⟨j,hj,rfl,hgl',hck,hpx,hlx⟩:=hrel
             by_cases hlj:j<M
             ·have hjl:j<lg.length:=by rw[HMM.out];exact hlj
              obtain⟨g3,o3,c3',hA3,hgl3,hat3,hok3⟩:=LgsR.at_ (by have:=hlx.out;rw[←HMM.out] at this;exact this:LgsR wr (.slice Al lg.length cl) lg) hjl
              rw[HMM.out] at hA3
              simp only[Value.slice.injEq,true_and] at hA3
              obtain⟨rfl,rfl⟩:=hA3
              have HLS:Hid (((lg.drop j).all fun g=>lgOkB D.fx g)=(lgOkB D.fx lg[j]&&((lg.drop (j+1)).all fun g=>lgOkB D.fx g))):=by
               unfold Hid;rw[List.drop_eq_getElem_cons hjl,List.all_cons]
              obtain⟨l,hl⟩:∃l,lg[j]=l:=⟨_,rfl⟩
              rw[hl] at hat3 hok3 HLS
              have HAT:Hid (∀t u,(lgc l)[t]? = some u→wr.cell? ⟨g3,o3+j*13+t,none⟩=some u):=hat3
              have HONE:=Lib.hid (lgc_one l)
              have hjM:(j:Int)<(M:Int):=by omega
              obtain⟨q9,hq9⟩:∃q,wr.heap.size=q:=⟨_,rfl⟩
              obtain⟨wD,hwD⟩:∃W,wr.alloc (.cells (lgc l).toArray 65)=W:=⟨_,rfl⟩
              have BD:Hid (Below wr.heap.size wr wD):=by rw[←hwD];exact(Below.refl _ _).alloc (Nat.le_refl _) _
              have KD:=Lib.hid (hck.out.below BD.out)
              have PD:=Lib.hid (hpx.out.below BD.out)
              have LD:=Lib.hid (hlx.out.below BD.out)
              have XD:Hid (Bx q9 (lgc l).toArray 65 wD):=by rw[←hwD,←hq9];exact Bx.last wr _ _
              have HWD:=Lib.hid hwD
              have HQ:=Lib.hid hq9
              have hgw:g3<wr.heap.size:=hgl3
              have hfx:=fun W (h:IxL b1 b2 b3 D.fx W)=>fixesG_any b1 b2 b3 D.fx l W h hok3
              unfold ixV at hfx
              obtain⟨v,hv⟩:∃v,lgOkB D.fx l=v:=⟨_,rfl⟩
              rw[hv] at HLS hfx
              have HFX:=Lib.hid hfx
              clear hat3 hok3 hl hwD hq9 hck hpx hlx hv hfx hgl3
              go_upto_region 64 with (first|(with_reducible refine wpList_load_wide rfl 65 (.tmp 202) rfl g3 (o3+j*13) rfl (lgc l) 13 rfl (aggLegD _) (sizeLegD _) HAT.out ?_)|(refine wpList_store_last wr _ rfl 65 (.tmp 27) (.tmp 203) rfl rfl (lgc l) rfl infoLegSD rfl HONE.out ?_))
              rw[HWD.out,HQ.out]
              clear HWD
              have xl:=XD.out.lt
              have XC:Hid (∀t u,(lgc l)[t]? = some u→wD.cell? ⟨q9,0+t,none⟩=some u):=fun t u hu=>by
               rw[Nat.zero_add];exact Bx.cell XD.out t (by rw[List.getElem?_toArray];exact hu)
              obtain⟨⟨g0,g1,g4⟩,_⟩:=KD.out.x4.cells3
              have gl:=KD.out.x4.lt
              go_wp2_with (with_reducible refine wpList_load_wide rfl 65 (.tmp 27) rfl q9 0 rfl (lgc l) 13 rfl (aggLegD _) (sizeLegD _) XC.out ?_)
              refine(HFX.out _ KD.out.ix).mono ?_
              rintro e wE ⟨rfl,hbE⟩
              have KE:=Lib.hid (KD.out.below hbE)
              have PE:=Lib.hid (PD.out.below hbE)
              have LE:=Lib.hid (LD.out.below hbE)
              clear hbE XD XC xl g0 g1 g4 gl KD PD LD HFX HAT
              cases v with
              | false =>
               have HV:Hid (R=6):=HBAD.out (by rw[HLE.out,hal.out,HAS.out,hgl'.out,HLS.out];rfl)
               have BE:=Lib.hid KE.out.be
               go_wp2
               go_ret
               exact⟨ret_int HV.out.symm,BE.out⟩
              | true =>
               have HAL:Hid ((lg.all fun g=>lgOkB D.fx g)=((lg.drop (j+1)).all fun g=>lgOkB D.fx g)):=by
                unfold Hid;rw[hgl'.out,HLS.out,Bool.true_and]
               go_wp2
               go_roundw
               case rel=>exact⟨j+1,hlj,by go_num,HAL,KE,PE,LE⟩
               case measure=>simp[intOf];omega
             ·have hjM:¬(j:Int)<(M:Int):=by omega
              have HAL:Hid ((pa.all fun x=>x.lg.all fun g=>lgOkB D.fx g)=((pa.drop (i+1)).all fun x=>x.lg.all fun g=>lgOkB D.fx g)):=by
               have h1:(lg.all fun g=>lgOkB D.fx g)=true:=by rw[hgl'.out,List.drop_of_length_le (by rw[HMM.out];omega)];rfl
               unfold Hid;rw[hal.out,HAS.out,h1,Bool.true_and]
              go_wp2
              go_roundw
              case rel=>exact⟨i+1,hlm,by go_num,HAL,hck,hpx⟩
              case measure=>simp[intOf];omega
           ·have him:¬(i:Int)<(m:Int):=by omega
            have HFS:=Lib.hid (HGOOD.out (by rw[HLE.out,hal.out,List.drop_of_length_le (by rw[HM.out];omega)];rfl))
            have KB:=Lib.hid hck.out
            clear hal hck hpx
            go_wp2
            go_roundw
            case rel=>exact⟨k+1,hlt,by go_num,HFS,KB⟩
            case measure=>simp[intOf];omega
      ·have hki:¬(k:Int)<(np:Int):=by omega
       have HV:Hid (R=0):=by unfold Hid;rw[HE.out,hfs.out,fsE_end (by omega)]
       have BE:=Lib.hid hck.out.be
       go_wp2
       go_ret
       exact⟨ret_int HV.out.symm,BE.out⟩
end Go.Proofs.YtgmehlgfilpleaaGreatDoor
