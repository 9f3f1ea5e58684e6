/-
  Several texts as one.
-/
import Derived.Test.YtgmehlgfilpleaaGreatDoorMG13
import Derived.Test.YtgmehlgfilpleaaGreatDoorCkP
import Derived.Test.YtgmehlgfilpleaaGreatDoorMG24
import Derived.Test.YtgmehlgfilpleaaGreatDoorFew
import Derived.Test.YtgmehlgfilpleaaGreatDoorMG25
import Derived.Test.YtgmehlgfilpleaaGreatDoorRkCk
namespace Go.Proofs.YtgmehlgfilpleaaGreatDoor
open Go.RowKit
set_option linter.unusedVariables false
set_option linter.unusedSimpArgs false
def Box9 (w:World) (q:Nat):Prop:=∀o u,w.cell? ⟨q,o,none⟩=some u→(o=0∧∃s,u=.string s)∨(1≤o∧∃z,u=.int .i64 z)∨(2≤o∧∃A n c,u=.slice A n c)
theorem box9_of {w:World} {q:Nat} {h:ImHd} {A B C:Option Addr} {i j k l m o:Nat} {t:TypeId} (hx:Bx q (dbA h (.slice A i j) (.slice B k l) (.slice C m o)) t w):Box9 w q:=by
 intro x u hu
 have hc:w.cell? ⟨q,x,none⟩=(dbA h (.slice A i j) (.slice B k l) (.slice C m o))[x]? := Lib.cell_of_heap hx x
 rw[hc] at hu
 unfold dbA at hu
 match x,hu with
 | 0,hu=>left;exact⟨rfl,_,(Option.some.inj hu).symm⟩
 | 1,hu=>right;left;exact⟨by omega,_,(Option.some.inj hu).symm⟩
 | 2,hu=>right;left;exact⟨by omega,_,(Option.some.inj hu).symm⟩
 | 3,hu=>right;left;exact⟨by omega,_,(Option.some.inj hu).symm⟩
 | 4,hu=>right;left;exact⟨by omega,_,(Option.some.inj hu).symm⟩
 | 5,hu=>right;left;exact⟨by omega,_,(Option.some.inj hu).symm⟩
 | 6,hu=>right;right;exact⟨by omega,_,_,_,(Option.some.inj hu).symm⟩
 | 7,hu=>right;right;exact⟨by omega,_,_,_,(Option.some.inj hu).symm⟩
 | 8,hu=>right;right;exact⟨by omega,_,_,_,(Option.some.inj hu).symm⟩
 | n+9,hu=>simp at hu
section
variable {w w':World} {q:Nat}
theorem Box9.no_u8 (h:Box9 w q) {o:Nat} {z:Int} (hu:w.cell? ⟨q,o,none⟩=some (.int .u8 z)):False:=by
 rcases h o _ hu with ⟨_,_,e⟩|⟨_,_,e⟩|⟨_,_,_,_,e⟩ <;> cases e
theorem Box9.str (h:Box9 w q) {o:Nat} {s:ByteArray} (hu:w.cell? ⟨q,o,none⟩=some (.string s)):o=0:=by
 rcases h o _ hu with ⟨e,_⟩|⟨_,_,e⟩|⟨_,_,_,_,e⟩
 ·exact e
 ·cases e
 ·cases e
structure But (q:Nat) (w w':World):Prop where
 size:w.heap.size≤w'.heap.size
 cell:∀g o,g≠q→g<w.heap.size→w'.cell? ⟨g,o,none⟩=w.cell? ⟨g,o,none⟩
theorem But.setRow (w:World) (q:Nat) (cs:Array Value):But q w (w.setRow q cs) :=
 ⟨by simp[World.setRow],fun g o hg _=>by
  have:=setRow_other w q g cs hg
  simp only[World.cell?,this]⟩
theorem Rd.but {k n:Nat} {v:Value} {xs:List Value} (h:Rd w k v n xs) (hb:But q w w') (hq:0<n→∀o,(∀j u,xs[j]? = some u→w.cell? ⟨q,o+j,none⟩=some u)→False):Rd w' k v n xs:=by
 obtain⟨hl,A,c,hv,hc,hm,hr⟩:=h
 refine⟨hl,A,c,hv,hc,hm,fun hn => ?_⟩
 obtain⟨g,o,hA,hg,hx⟩:=hr hn
 have hne:g≠q:=by intro e;subst e;exact hq hn o hx
 exact⟨g,o,hA,Nat.lt_of_lt_of_le hg hb.size,fun j u hu=>(hb.cell g (o+j) hne hg).trans (hx j u hu)⟩
theorem PtsR.but {v:Value} {l:List Pt} (h:PtsR w v l) (hb:But q w w') (h9:Box9 w q):PtsR w' v l :=
 ⟨h.1.but hb (fun hn o hx=>by
  cases l with
  | nil=>simp at hn
  | cons p l=>exact h9.no_u8 (hx 3 _ (by rfl))),h.2⟩
theorem LgsR.but {v:Value} {l:List Lg} (h:LgsR w v l) (hb:But q w w') (h9:Box9 w q):LgsR w' v l :=
 ⟨h.1.but hb (fun hn o hx=>by
  cases l with
  | nil=>simp at hn
  | cons p l=>exact h9.no_u8 (hx 0 _ (by rfl))),h.2⟩
theorem FxsD.but {v:Value} {l:List Fx} (h:FxsD w v l) (hb:But q w w') (h9:Box9 w q):FxsD w' v l :=
 ⟨h.1.but hb (fun hn o hx=>by
  cases l with
  | nil=>simp at hn
  | cons p l=>have:=h9.str (hx 1 _ (by rfl));omega),h.2⟩
theorem AwsD.but {v:Value} {l:List AwD} (h:AwsD w v l) (hb:But q w w') (h9:Box9 w q):AwsD w' v l:=by
 obtain⟨L,h1,h2,h3⟩:=h
 refine⟨L,h1,h2.but hb (fun hn o hx => ?_),fun x hx=>⟨(h3 x hx).1,(h3 x hx).2.but hb h9⟩⟩
 cases L with
 | nil=>simp at hn
 | cons x L =>
  have h0:=h9.str (hx 0 _ (by rfl))
  have h4:=hx 1 _ (by rfl)
  obtain⟨A,c,hv,_⟩:=(h3 x (by simp)).2.form
  have e0:o=0:=by omega
  subst e0
  rw[hv] at h4
  rcases h9 _ _ h4 with ⟨_,_,e⟩|⟨_,_,e⟩|⟨e,_⟩
  ·cases e
  ·cases e
  ·omega
theorem PasR.but {v:Value} {l:List Pa} (h:PasR w v l) (hb:But q w w') (h9:Box9 w q):PasR w' v l:=by
 obtain⟨L,h1,h2,h3⟩:=h
 refine⟨L,h1,h2.but hb (fun hn o hx => ?_),fun x hx=>⟨(h3 x hx).1,(h3 x hx).2.1,(h3 x hx).2.2.but hb h9⟩⟩
 cases L with
 | nil=>simp at hn
 | cons x L=>exact h9.no_u8 (hx 0 _ (by rfl))
theorem PrcsR.but {v:Value} {l:List Prc} (h:PrcsR w v l) (hb:But q w w') (h9:Box9 w q):PrcsR w' v l:=by
 obtain⟨L,h1,h2,h3⟩:=h
 refine⟨L,h1,h2.but hb (fun hn o hx => ?_),fun x hx=>⟨(h3 x hx).1,(h3 x hx).2.1,(h3 x hx).2.2.1,(h3 x hx).2.2.2.but hb h9⟩⟩
 cases L with
 | nil=>simp at hn
 | cons x L=>have:=h9.str (hx 1 _ (by rfl));omega
theorem DbV.but {f a p:Value} {D:DbD} (h:DbV w f a p D) (hb:But q w w') (h9:Box9 w q):DbV w' f a p D:=⟨h.nm,h.fx.but hb h9,h.aw.but hb h9,h.pr.but hb h9⟩
end
end Go.Proofs.YtgmehlgfilpleaaGreatDoor
namespace Go.Proofs.YtgmehlgfilpleaaGreatDoor
open Go.RowKit Go.Lib Go.Sort
set_option linter.unusedVariables false
set_option linter.unusedSimpArgs false
set_option maxRecDepth 100000 in
set_option maxHeartbeats 16000000 in
theorem navdbChecks_walk (D:DbD) (f a p:Value) (w:World) (E:Env w) (hT:LegT w) (h:DbV w f a p D) (hz:SzL D.fx) :
  Calls Tryz.prog 3 #[.agg (dbC D.hd f a p).toArray] w fun e w'=>e=.returned (.bool true)∧Below w.heap.size w w':=by
 obtain⟨Af,cf,rfl,hcf,hmf⟩:=h.fx.1.form
 obtain⟨Aa,ca,rfl,hca,hma⟩:=h.aw.form
 obtain⟨Ap,cp,rfl,hcp,hmp⟩:=h.pr.form
 obtain⟨n,hn⟩:∃n,D.fx.length=n:=⟨_,rfl⟩
 obtain⟨na,hna⟩:∃n,D.aw.length=n:=⟨_,rfl⟩
 obtain⟨np,hnp⟩:∃n,D.pr.length=n:=⟨_,rfl⟩
 rw[hn,hna,hnp] at h ⊢
 have HH:=Lib.hid h
 rw[dbA_eq]
 unfold dbA
 obtain⟨w1,hw1⟩:∃W,w.alloc (.cells (dbA D.hd (.slice Af n cf) (.slice Aa na ca) (.slice Ap np cp)) 30)=W:=⟨_,rfl⟩
 obtain⟨q,hq⟩:∃q,w.heap.size=q:=⟨_,rfl⟩
 have B1:Hid (Below w.heap.size w w1):=by rw[←hw1];exact(Below.refl _ _).alloc (Nat.le_refl _) _
 have X1:Hid (Bx q (dbA D.hd (.slice Af n cf) (.slice Aa na ca) (.slice Ap np cp)) 30 w1):=by rw[←hw1,←hq];exact Bx.last w _ _
 have haw:=Lib.hid (awake18_any w1 (E.below B1.out) (hT.below B1.out))
 have HT:=Lib.hid hT
 have HZ:=Lib.hid hz
 unfold dbA at hw1
 have HW1:=Lib.hid hw1
 have HQ:=Lib.hid hq
 clear h hw1 hn hna hnp hq hcf hmf hca hma hcp hmp hT E hz
 go_enter Tryz.func3,Tryz.ntmps3
 go_upto_region 1 with fail
 rw[HW1.out,HQ.out]
 clear HW1
 go_wp2_with fail
 refine haw.out.mono ?_
 rintro e w2 ⟨rfl,hb2⟩
 have B2:=Lib.hid (Below.then_ B1.out hb2)
 have X2:=Lib.hid (X1.out.via hb2)
 obtain⟨⟨x0,x1,x2,x3,x4,x5,x6,x7,x8⟩,_⟩:=Bx.cells9 X2.out
 have xl:=X2.out.lt
 have hfew:=fewDb_any D (.slice Af n cf) (.slice Aa na ca) (.slice Ap np cp) w2 (HH.out.below B2.out)
 rw[dbA_eq] at hfew
 unfold dbA at hfew
 have HFEW:=Lib.hid hfew
 clear hb2 haw hfew X1 B1
 go_wp2_with fail
 refine HFEW.out.mono ?_
 rintro e w3 ⟨⟨f3,a3,p3,rfl,hv3⟩,hb3⟩
 have B3:=Lib.hid (Below.then_ B2.out hb3)
 obtain⟨Bf,df,rfl,hcf,hmf⟩:=hv3.fx.1.form
 obtain⟨Ba,da,rfl,hca,hma⟩:=hv3.aw.form
 obtain⟨Bp,dp,rfl,hcp,hmp⟩:=hv3.pr.form
 obtain⟨D3,hD3⟩:∃X,fewD D=X:=⟨_,rfl⟩
 have hh3:D3.hd=D.hd:=by rw[←hD3];rfl
 have hsz:=fewD_sz HZ.out
 rw[hD3] at hv3 hcf hca hcp hsz ⊢
 obtain⟨n3,hn3⟩:∃n,D3.fx.length=n:=⟨_,rfl⟩
 obtain⟨na3,hna3⟩:∃n,D3.aw.length=n:=⟨_,rfl⟩
 obtain⟨np3,hnp3⟩:∃n,D3.pr.length=n:=⟨_,rfl⟩
 rw[hn3,hna3,hnp3] at hv3 ⊢
 have X3:=Lib.hid (X2.out.via hb3)
 have W3:Hid (Bx q (dbA D.hd (.slice Bf n3 df) (.slice Ba na3 da) (.slice Bp np3 dp)) 30 (w3.setRow q (dbA D.hd (.slice Bf n3 df) (.slice Ba na3 da) (.slice Bp np3 dp)))):=setRow_heap _ q _ _ 30 (0,0) X3.out
 have B9:Hid (Below w.heap.size w (w3.setRow q (dbA D.hd (.slice Bf n3 df) (.slice Ba na3 da) (.slice Bp np3 dp)))):=row_below B3.out HQ.out
 have hv9:=hv3.but (But.setRow w3 q (dbA D.hd (.slice Bf n3 df) (.slice Ba na3 da) (.slice Bp np3 dp))) (box9_of X3.out)
 have hone:(dbA D.hd (.slice Bf n3 df) (.slice Ba na3 da) (.slice Bp np3 dp)).all (·.oneCell')=true:=by simp[dbA,Value.oneCell']
 obtain⟨W9,hW9⟩:∃W,w3.setRow q (dbA D.hd (.slice Bf n3 df) (.slice Ba na3 da) (.slice Bp np3 dp))=W:=⟨_,rfl⟩
 rw[hW9] at W3 B9 hv9
 have hck1:∀W,RowKit.Below W9.heap.size W9 W→Calls Tryz.prog 10 #[.agg (dbC D3.hd (.slice Bf n3 df) (.slice Ba na3 da) (.slice Bp np3 dp)).toArray] W fun e w'=>e=.returned (.int .i64 (dbE D3))∧RowKit.Below W.heap.size W w':=fun W hW=>dbCheck_any D3 _ _ _ W (HT.out.below (Below.then_ B9.out hW)) (hv9.below hW) hsz
 have hck2:∀W,RowKit.Below W9.heap.size W9 W→Calls Tryz.prog 11 #[.agg (dbC D3.hd (.slice Bf n3 df) (.slice Ba na3 da) (.slice Bp np3 dp)).toArray] W fun e w'=>e=.returned (.int .i64 (dbE D3))∧RowKit.Below W.heap.size W w':=fun W hW=>rdbCheck_any D3 _ _ _ W (hv9.below hW) hsz.fx hsz.pr
 obtain⟨er,her⟩:∃e,dbE D3=e:=⟨_,rfl⟩
 rw[hh3,dbA_eq,her] at hck1 hck2
 unfold dbA at hck1 hck2
 have HC1:=Lib.hid hck1
 have HC2:=Lib.hid hck2
 rw[dbA_eq]
 have HW9:=Lib.hid hW9
 have hnl:(n3:Int)≤9223372036854775807∧(na3:Int)≤9223372036854775807∧(np3:Int)≤9223372036854775807:=by unfold maxLen at hmf hma hmp;omega
 have HNL:=Lib.hid hnl
 clear hb3 hck1 hck2 her B2 X2 HFEW hv3 x0 x1 x2 x3 x4 x5 x6 x7 x8 xl hcf hmf hca hma hcp hmp hD3 hh3 hsz hn3 hna3 hnp3 hv9 hW9 hnl HZ
 go_upto_region 4 with (refine wpList_plain rfl fun _ hK=>wp_store_row 30 (.tmp 1) (.tmp 6) rfl q (dbA D.hd (.slice Bf n3 df) (.slice Ba na3 da) (.slice Bp np3 dp)) rfl rfl 30 _ X3.out infoDB9 rfl hone (hK _ _ ?_))
 rw[HW9.out]
 clear HW9 hone X3
 have x0:=fun pb:BelBy W9=>(W3.out.via pb.h).cell 0 (u:=.string (sb D.hd.nm)) rfl
 have x1:=fun pb:BelBy W9=>(W3.out.via pb.h).cell 1 (u:=.int .i64 D.hd.cy) rfl
 have x2:=fun pb:BelBy W9=>(W3.out.via pb.h).cell 2 (u:=.int .i64 D.hd.fr) rfl
 have x3:=fun pb:BelBy W9=>(W3.out.via pb.h).cell 3 (u:=.int .i64 D.hd.tu) rfl
 have x4:=fun pb:BelBy W9=>(W3.out.via pb.h).cell 4 (u:=.int .i64 D.hd.la) rfl
 have x5:=fun pb:BelBy W9=>(W3.out.via pb.h).cell 5 (u:=.int .i64 D.hd.lo) rfl
 have x6:=fun pb:BelBy W9=>(W3.out.via pb.h).cell 6 (u:=.slice Bf n3 df) rfl
 have x7:=fun pb:BelBy W9=>(W3.out.via pb.h).cell 7 (u:=.slice Ba na3 da) rfl
 have x8:=fun pb:BelBy W9=>(W3.out.via pb.h).cell 8 (u:=.slice Bp np3 dp) rfl
 have c1:=HC1.out
 have c2:=HC2.out
 go_wp2_with fail
 refine wp_region_quiet_bel (by kernel_rfl) (by kernel_rfl) ?_
 repeat(quiet_step (first|(go_at_call 10;with_reducible exact Calls.bel_of (c1 _ (BelBy.h _)))|(go_at_call 11;with_reducible exact Calls.bel_of (c2 _ (BelBy.h _)))))
 refine wpQuiet_nil ?_
 rintro wz ⟨pw,hwz⟩
 have BZ:Hid (RowKit.Below W9.heap.size W9 wz):=by rw[hwz];exact pw.h
 have BE:=Lib.hid (Below.then_ B9.out BZ.out)
 clear hwz pw x0 x1 x2 x3 x4 x5 x6 x7 x8 c1 c2 HC1 HC2
 go_wp2
 go_ret
 exact⟨by first|rfl|simp,BE.out⟩
end Go.Proofs.YtgmehlgfilpleaaGreatDoor
