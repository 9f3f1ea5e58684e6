/-
  Several texts as one.
-/
import Derived.Test.YtgmehlgfilpleaaGreatDoorMG08
import Derived.Test.YtgmehlgfilpleaaGreatDoorMG11
import Derived.Test.YtgmehlgfilpleaaGreatDoorShelf
import Derived.Test.YtgmehlgfilpleaaGreatDoorMG05
namespace Go.Proofs.YtgmehlgfilpleaaGreatDoor
open Go.RowKit
set_option linter.unusedVariables false
set_option linter.unusedSimpArgs false

theorem Rd.three {w:World} {n:Nat} {v:Value} {xs:List Value} (h:Rd w 3 v n xs) {k:Nat} (hk:k<n):∃g o c a b d,v=.slice (some ⟨g,o,none⟩) n c∧n≤c∧g<w.heap.size∧xs[k*3]? = some a∧xs[k*3+1]? = some b∧xs[k*3+2]? = some d∧w.cell? ⟨g,o+k*3,none⟩=some a∧w.cell? ⟨g,o+k*3+1,none⟩=some b∧w.cell? ⟨g,o+k*3+2,none⟩=some d:=by
 obtain⟨hl,A,c,hv,hc,hm,hr⟩:=h
 obtain⟨g,o,rfl,hg,hx⟩:=hr (by omega)
 have h1:k*3<xs.length:=by omega
 have h2:k*3+1<xs.length:=by omega
 have h3:k*3+2<xs.length:=by omega
 have e2:=hx _ _ (List.getElem?_eq_getElem h2)
 have e3:=hx _ _ (List.getElem?_eq_getElem h3)
 rw[←Nat.add_assoc] at e2 e3
 exact⟨g,o,c,xs[k*3],xs[k*3+1],xs[k*3+2],hv,hc,hg,List.getElem?_eq_getElem h1,List.getElem?_eq_getElem h2,List.getElem?_eq_getElem h3,hx _ _ (List.getElem?_eq_getElem h1),e2,by rwa [Nat.add_assoc] at e3 ⊢⟩
theorem dcells_at (l:List Dg):∀(k:Nat) (h:k<l.length),(dcells l)[k*3]? = some (.int .i64 (l[k].1:Int))∧(dcells l)[k*3+1]? = some (.int .i64 l[k].2.1)∧(dcells l)[k*3+2]? = some (.int .i64 l[k].2.2):=by
 induction l with
 | nil=>intro k h;simp at h
 | cons d l ih =>
  intro k h
  cases k with
  | zero=>exact⟨rfl,rfl,rfl⟩
  | succ k =>
   have:=ih k (by simpa using h)
   rw[show(k+1)*3=k*3+3 by omega]
   exact this
theorem rcells_at (L:List (Rec × Value)):∀(k:Nat) (h:k<L.length),(rcells L)[k*2]? = some (.int .i64 (L[k].1.1:Int))∧(rcells L)[k*2+1]? = some L[k].2:=by
 induction L with
 | nil=>intro k h;simp at h
 | cons d l ih =>
  intro k h
  cases k with
  | zero=>exact⟨rfl,rfl⟩
  | succ k =>
   have:=ih k (by simpa using h)
   rw[show(k+1)*2=k*2+2 by omega]
   exact this
theorem RecsR.form {w:World} {v:Value} {rs:List Rec} (h:RecsR w v rs):∃A c,v=.slice A rs.length c∧rs.length≤c∧c≤maxLen:=by
 obtain⟨L,_,h2,_⟩:=h
 exact h2.1.form
theorem RecsR.below {w w':World} {v:Value} {rs:List Rec} (h:RecsR w v rs) (hb:Below w.heap.size w w'):RecsR w' v rs:=by
 obtain⟨L,h1,h2,h3⟩:=h
 exact⟨L,h1,h2.below hb,h3.below hb⟩
theorem DgsR.below {w w':World} {v:Value} {ds:List Dg} (h:DgsR w v ds) (hb:Below w.heap.size w w'):DgsR w' v ds:=RdT.below h hb
theorem DgsR.form {w:World} {v:Value} {ds:List Dg} (h:DgsR w v ds):∃A c,v=.slice A ds.length c∧ds.length≤c∧c≤maxLen:=h.1.form
theorem RecsR.at_ {w:World} {v:Value} {rs:List Rec} (h:RecsR w v rs) {k:Nat} (hk:k<rs.length):∃g o c fv,v=.slice (some ⟨g,o,none⟩) rs.length c∧w.cell? ⟨g,o+k*2,none⟩=some (.int .i64 (rs[k].1:Int))∧w.cell? ⟨g,o+k*2+1,none⟩=some fv∧RdT w 244 2 fv rs[k].2.length (fcells rs[k].2):=by
 obtain⟨L,h1,h2,h3⟩:=h
 have hl:L.length=rs.length:=by rw[←h1,List.length_map]
 have hkL:k<L.length:=by omega
 have e:L[k].1=rs[k]:=by simp only[←h1,List.getElem_map]
 obtain⟨g,o,c,a,b,hv,_,_,x1,x2,y1,y2⟩:=h2.1.two hk
 have:=rcells_at L k hkL
 rw[this.1,Option.some.injEq] at x1
 rw[this.2,Option.some.injEq] at x2
 subst x1 x2
 rw[e] at y1
 refine⟨g,o,c,_,hv,y1,y2,?_⟩
 rw[←e]
 exact h3 _ (List.getElem_mem hkL)
theorem DgsR.at_ {w:World} {v:Value} {ds:List Dg} (h:DgsR w v ds) {k:Nat} (hk:k<ds.length):∃g o c,v=.slice (some ⟨g,o,none⟩) ds.length c∧w.cell? ⟨g,o+k*3,none⟩=some (.int .i64 (ds[k].1:Int))∧w.cell? ⟨g,o+k*3+1,none⟩=some (.int .i64 ds[k].2.1)∧w.cell? ⟨g,o+k*3+2,none⟩=some (.int .i64 ds[k].2.2):=by
 obtain⟨g,o,c,a,b,d,hv,_,_,x1,x2,x3,y1,y2,y3⟩:=Rd.three h.1 hk
 have:=dcells_at ds k hk
 rw[this.1,Option.some.injEq] at x1
 rw[this.2.1,Option.some.injEq] at x2
 rw[this.2.2,Option.some.injEq] at x3
 subst x1 x2 x3
 exact⟨g,o,c,hv,y1,y2,y3⟩



def winSLo (l:List UInt8):Int:=pwLo l (winSpec l)
def winSHi (l:List UInt8):Int:=pwHi l (winSpec l)
def winSEr (l:List UInt8):Int:=pwErr l (winSpec l)
theorem winS_zero {l:List UInt8} (h:winSEr l≠0):winSLo l=0∧winSHi l=0:=by
 unfold winSEr at h
 unfold winSLo winSHi
 revert h
 unfold pwErr pwLo pwHi
 cases winSpec l with
 | none=>intro _;exact⟨rfl,rfl⟩
 | some v =>
  obtain⟨a,b⟩:=v
  simp only[]
  intro h
  by_cases h1:(rangedB a&&rangedB b)=true
  ·rw[if_pos h1] at h
   by_cases h2:a≤b
   ·rw[if_pos h2] at h
    by_cases h3:(winOut a b == l)=true
    ·rw[if_pos h3] at h;exact absurd rfl h
    ·have h3':=Bool.not_eq_true _ ▸ h3
     rw[Bool.not_eq_true] at h3
     rw[h3,Bool.and_false];exact⟨rfl,rfl⟩
   ·rw[decide_eq_false h2,Bool.and_false,Bool.false_and];exact⟨rfl,rfl⟩
  ·rw[Bool.not_eq_true] at h1
   rw[h1,Bool.false_and,Bool.false_and];exact⟨rfl,rfl⟩
def WinSPost (s:Sc) (g:Nat) (w:World) (e:Ending) (w':World):Prop :=
 e=.returned (.agg #[.int .i64 (s.tv 0 winSLo),.int .i64 (s.tv 0 winSHi)])∧ScPost (s.tk winSEr) g w w'
theorem WinSPost.mk {s:Sc} {g:Nat} {w w':World} {a b:Int} (h1:s.tv 0 winSLo=a) (h2:s.tv 0 winSHi=b) (h:ScPost (s.tk winSEr) g w w'):WinSPost s g w (.returned (.agg #[.int .i64 a,.int .i64 b])) w':=by
 unfold WinSPost;rw[h1,h2];exact⟨rfl,h⟩
set_option maxRecDepth 100000 in
set_option maxHeartbeats 1000000 in
theorem takenWin_any (s:Sc) (g:Nat) (w:World) (E:Env w) (hg0:12≤g) (hts:s.text.length≤140737488351232) (h:ScP w g s) :
  Calls Tryz.prog 398 #[.pointer (some ⟨g,0,none⟩),.func (.func 372) #[] #[]] w (WinSPost s g w):=by
 have hgs:=h.lt
 have H:Hid (ScP ((w.alloc (.cells #[.int .i64 0,.int .i64 0] 51)).alloc (.cells #[.int .i64 0,.int .i64 0] 51)) g s):=(h.alloc _).alloc _
 have O1:OwnB ((w.alloc (.cells #[.int .i64 0,.int .i64 0] 51)).alloc (.cells #[.int .i64 0,.int .i64 0] 51)) w.heap.size 0 0 51 :=
  (((Below.refl _ _).alloc (Nat.le_refl _) _).block w.heap.size (by simp)).trans (heap_alloc_new w _)
 have O2:OwnB ((w.alloc (.cells #[.int .i64 0,.int .i64 0] 51)).alloc (.cells #[.int .i64 0,.int .i64 0] 51)) (w.heap.size+1) 0 0 51:=by
  have:=heap_alloc_new (w.alloc (.cells #[.int .i64 0,.int .i64 0] 51)) (.cells #[.int .i64 0,.int .i64 0] 51)
  rw[show(w.alloc (.cells #[.int .i64 0,.int .i64 0] 51)).heap.size=w.heap.size+1 by simp] at this
  exact this
 have HOFF:Hid (Off g w ((w.alloc (.cells #[.int .i64 0,.int .i64 0] 51)).alloc (.cells #[.int .i64 0,.int .i64 0] 51))):=((Off.refl g w).alloc _).alloc _
 have HO1:=Lib.hid O1
 have HO2:=Lib.hid O2
 clear h O1 O2
 cases hg:s.got
 ·have HG:=Lib.hid hg
  have HF1:=Lib.hid (Sc.tv_no hg (0:Int) winSLo)
  have HF2:=Lib.hid (Sc.tv_no hg (0:Int) winSHi)
  have HF3:=Lib.hid (Sc.tk_no hg winSEr)
  clear hg
  go_enter Tryz.func398,Tryz.ntmps398
  go_wp2_with fail
  refine(take_any s g _ H.out).mono ?_
  rintro e w1 ⟨rfl,hp⟩
  rw[HG.out]
  have HP:=Lib.hid hp
  obtain⟨k0,k1,k2,k3,k4⟩:=(HO1.out.off hp.2 (by omega)).facts
  obtain⟨l0,l1,l2,l3,l4⟩:=(HO2.out.off hp.2 (by omega)).facts
  have HFIN:Hid (ScPost s.take g w ((w1.setCell ⟨w.heap.size,0,none⟩ (.int .i64 0)).setCell ⟨w.heap.size,1,none⟩ (.int .i64 0))) :=
   ⟨(hp.1.setNew hgs _).setNew hgs _,((HOFF.out.trans hp.2).setNew (Nat.le_refl _) _ _).setNew (Nat.le_refl _) _ _⟩
  clear hp
  go_wp2
  exact bodyPost_ret (v:=.agg #[.int .i64 0,.int .i64 0]) (by simp[results,Tryz.results398,go_sem,k0,k1,k4]) rfl (WinSPost.mk HF1.out HF2.out (by rw[HF3.out];exact HFIN.out))
 ·have HG:=Lib.hid hg
  have HF1:=Lib.hid (Sc.tv_got hg (0:Int) winSLo)
  have HF2:=Lib.hid (Sc.tv_got hg (0:Int) winSHi)
  have HF3:=Lib.hid (Sc.tk_got hg winSEr)
  obtain⟨t,ht⟩:∃t,s.text=t:=⟨_,rfl⟩
  have hsz:=text_size hts
  rw[ht] at HF1 HF2 HF3 hsz
  have HT:=Lib.hid ht
  have HSZ:=Lib.hid hsz
  clear hg ht hts hsz
  go_enter Tryz.func398,Tryz.ntmps398
  go_wp2_with fail
  refine(take_any s g _ H.out).mono ?_
  rintro e w1 ⟨rfl,hp⟩
  rw[HG.out,HT.out]
  have HP:=Lib.hid hp
  have E1:Env w1:=((E.alloc _).alloc _).of_below (hp.2.below (Below.refl 12 _) hg0 ((E.alloc _).alloc _).size) (Nat.le_refl _)
  clear hp
  go_wp2_with fail
  refine(parseWindow_any (sb t) _ E1 HSZ.out).mono ?_
  rintro e w2 ⟨rfl,hb2⟩
  rw[bl_sb]
  have HP2:=Lib.hid (HP.out.then_ hb2)
  have z2:w.heap.size+2≤w2.heap.size:=by have:=HP2.out.2.size;simp at this;omega
  obtain⟨x,hx⟩:∃x,winSLo t=x:=⟨_,rfl⟩
  obtain⟨y,hy⟩:∃x,winSHi t=x:=⟨_,rfl⟩
  obtain⟨er,her⟩:∃x,winSEr t=x:=⟨_,rfl⟩
  have hz:er≠0→x=0∧y=0:=by rw[←her,←hx,←hy];exact winS_zero
  rw[hx] at HF1
  rw[hy] at HF2
  rw[her] at HF3
  unfold winSLo at hx
  unfold winSHi at hy
  unfold winSEr at her
  rw[hx,hy,her]
  clear hx hy her
  have Q1:=Lib.hid (HO1.out.off HP2.out.2 (by omega))
  have Q2:=Lib.hid (HO2.out.off HP2.out.2 (by omega))
  obtain⟨k0,k1,k2,k3,k4⟩:=Q1.out.facts
  obtain⟨l0,l1,l2,l3,l4⟩:=Q2.out.facts
  have c3:=HP2.out.1.c3
  have hg2:=HP2.out.1.lt
  by_cases h0:er=0
  ·have e1:(er != 0)=false:=bne_eq_false_iff_eq.2 h0
   have HE:Hid (s.tk winSEr=s.take):=by unfold Hid;rw[HF3.out,h0,Sc.note_zero]
   have HFIN:Hid (ScPost s.take g w (((w2.setCell ⟨w.heap.size,0,none⟩ (.int .i64 x)).setCell ⟨w.heap.size,1,none⟩ (.int .i64 y)).alloc (.cells #[.int .i64 x,.int .i64 y] 51))) :=
    ⟨((HP2.out.1.setNew hgs _).setNew hgs _).alloc _,(((HOFF.out.trans HP2.out.2).setNew (Nat.le_refl _) _ _).setNew (Nat.le_refl _) _ _).alloc _⟩
   clear h0 hz hb2
   go_wp2
   exact bodyPost_ret (v:=.agg #[.int .i64 x,.int .i64 y]) (by simp[results,Tryz.results398,go_sem,k0,k1,k4]) rfl (WinSPost.mk HF1.out HF2.out (by rw[HE.out];exact HFIN.out))
  ·have e1:(er != 0)=true:=bne_iff_ne.2 h0
   obtain⟨rfl,rfl⟩:=hz h0
   clear h0 hz hb2
   go_wp2_with fail
   refine(note_any s.take s.take.la er g _ (HP2.out.1.alloc _)).mono ?_
   rintro e w3 ⟨rfl,hp⟩
   have HP3:=Lib.hid hp
   have HO3:Hid (Off g w2 w3):=((Off.refl g w2).alloc _).trans hp.2
   clear k0 k1 k2 k3 k4 l0 l1 l2 l3 l4 hp
   obtain⟨k0,k1,k2,k3,k4⟩:=(Q1.out.off HO3.out (by omega)).facts
   obtain⟨l0,l1,l2,l3,l4⟩:=(Q2.out.off HO3.out (by omega)).facts
   have HFIN:Hid (ScPost (s.tk winSEr) g w ((w3.setCell ⟨w.heap.size,0,none⟩ (.int .i64 0)).setCell ⟨w.heap.size,1,none⟩ (.int .i64 0))):=by
    unfold Hid
    rw[HF3.out]
    exact⟨(HP3.out.1.setNew hgs _).setNew hgs _,(((HOFF.out.trans HP2.out.2).trans HO3.out).setNew (Nat.le_refl _) _ _).setNew (Nat.le_refl _) _ _⟩
   go_wp2
   exact bodyPost_ret (v:=.agg #[.int .i64 0,.int .i64 0]) (by simp[results,Tryz.results398,go_sem,k0,k1,k4]) rfl (WinSPost.mk HF1.out HF2.out HFIN.out)
set_option maxHeartbeats 1000000 in
theorem winS_any (s:Sc) (g:Nat) (w:World) (E:Env w) (hg0:12≤g) (hts:s.text.length≤140737488351232) (h:ScP w g s) :
  Calls Tryz.prog 365 #[.pointer (some ⟨g,0,none⟩)] w (WinSPost s g w):=by
 have H:Hid (ScP (w.alloc (.cells #[.int .i64 0,.int .i64 0] 51)) g s):=h.alloc _
 have O1:Hid (OwnB (w.alloc (.cells #[.int .i64 0,.int .i64 0] 51)) w.heap.size 0 0 51):=heap_alloc_new w _
 have HOFF:Hid (Off g w (w.alloc (.cells #[.int .i64 0,.int .i64 0] 51))):=(Off.refl g w).alloc _
 have hgs:=h.lt
 obtain⟨x,hx⟩:∃x,s.tv 0 winSLo=x:=⟨_,rfl⟩
 obtain⟨y,hy⟩:∃x,s.tv 0 winSHi=x:=⟨_,rfl⟩
 have HX:=Lib.hid hx
 have HY:=Lib.hid hy
 clear h hx hy
 go_enter Tryz.func365,Tryz.ntmps365
 go_wp2_with fail
 refine(takenWin_any s g _ (E.alloc _) hg0 hts H.out).mono ?_
 rintro e w1 ⟨rfl,hp⟩
 rw[HX.out,HY.out]
 obtain⟨k0,k1,k2,k3,k4⟩:=(O1.out.off hp.2 (by omega)).facts
 have HFIN:Hid (ScPost (s.tk winSEr) g w ((w1.setCell ⟨w.heap.size,0,none⟩ (.int .i64 x)).setCell ⟨w.heap.size,1,none⟩ (.int .i64 y))) :=
  ⟨(hp.1.setNew hgs _).setNew hgs _,((HOFF.out.trans hp.2).setNew (Nat.le_refl _) _ _).setNew (Nat.le_refl _) _ _⟩
 clear hp
 go_wp2
 exact bodyPost_ret (v:=.agg #[.int .i64 x,.int .i64 y]) (by simp[results,Tryz.results365,go_sem,k0,k1,k4]) rfl (WinSPost.mk HX.out HY.out HFIN.out)

def TxR (w:World) (v:Value) (ts:List (List UInt8)):Prop :=
 ∃xs:List Value,Rd w 2 v ts.length xs∧∀k (h:k<ts.length),xs[k*2]? = some (.string (sb ts[k]))∧∃n:Int,xs[k*2+1]? = some (.int .i64 n)
theorem TxR.form {w:World} {v:Value} {ts:List (List UInt8)} (h:TxR w v ts):∃A c,v=.slice A ts.length c∧ts.length≤c∧c≤maxLen:=by
 obtain⟨xs,h1,_⟩:=h;exact h1.form
theorem TxR.below {w w':World} {v:Value} {ts:List (List UInt8)} (h:TxR w v ts) (hb:Below w.heap.size w w'):TxR w' v ts:=by
 obtain⟨xs,h1,h2⟩:=h;exact⟨xs,h1.below hb,h2⟩
theorem TxR.at_ {w:World} {v:Value} {ts:List (List UInt8)} (h:TxR w v ts) {k:Nat} (hk:k<ts.length) :
  ∃g o c,∃n:Int,v=.slice (some ⟨g,o,none⟩) ts.length c∧g<w.heap.size∧w.cell? ⟨g,o+k*2,none⟩=some (.string (sb ts[k]))∧w.cell? ⟨g,o+k*2+1,none⟩=some (.int .i64 n):=by
 obtain⟨xs,h1,h2⟩:=h
 obtain⟨g,o,c,a,b,hv,_,hg,x1,x2,y1,y2⟩:=h1.two hk
 obtain⟨z1,n,z2⟩:=h2 k hk
 rw[z1,Option.some.injEq] at x1
 rw[z2,Option.some.injEq] at x2
 subst x1 x2
 exact⟨g,o,c,n,hv,hg,y1,y2⟩
def LnR (w:World) (v:Value) (L:List (List (List UInt8))):Prop :=
 ∃xs:List Value,Rd w 2 v L.length xs∧∀k (h:k<L.length),∃(n:Int) (fv:Value),xs[k*2]? = some (.int .i64 n)∧xs[k*2+1]? = some fv∧TxR w fv L[k]
theorem LnR.form {w:World} {v:Value} {L:List (List (List UInt8))} (h:LnR w v L):∃A c,v=.slice A L.length c∧L.length≤c∧c≤maxLen:=by
 obtain⟨xs,h1,_⟩:=h;exact h1.form
theorem LnR.below {w w':World} {v:Value} {L:List (List (List UInt8))} (h:LnR w v L) (hb:Below w.heap.size w w'):LnR w' v L:=by
 obtain⟨xs,h1,h2⟩:=h
 exact⟨xs,h1.below hb,fun k hk=>by obtain⟨n,fv,x0,x1,x2⟩:=h2 k hk;exact⟨n,fv,x0,x1,x2.below hb⟩⟩
theorem LnR.at_ {w:World} {v:Value} {L:List (List (List UInt8))} (h:LnR w v L) {k:Nat} (hk:k<L.length) :
  ∃g o c,∃(a:Int) (fv:Value),v=.slice (some ⟨g,o,none⟩) L.length c∧g<w.heap.size∧w.cell? ⟨g,o+k*2,none⟩=some (.int .i64 a)∧w.cell? ⟨g,o+k*2+1,none⟩=some fv∧TxR w fv L[k]:=by
 obtain⟨xs,h1,h2⟩:=h
 obtain⟨g,o,c,a,b,hv,_,hg,x1,x2,y1,y2⟩:=h1.two hk
 obtain⟨n,fv,z0,z1,z2⟩:=h2 k hk
 rw[z0,Option.some.injEq] at x1
 rw[z1,Option.some.injEq] at x2
 subst x1 x2
 exact⟨g,o,c,n,fv,hv,hg,y1,y2,z2⟩
def joinL (ts:List (List UInt8)):List UInt8:=Lib.join ts [32]
theorem join_call (v:Value) (ts:List (List UInt8)) (w:World) (h:Rd w 1 v ts.length (scells ts)) (hL:(joinL ts).length≤1100000000) (hn:ts.length≤1100000000) :
  Calls Tryz.prog 103 #[v,.string ⟨#[32]⟩] w (StrPost (joinL ts) w):=by
 obtain⟨hl,A,c,rfl,hc,hm,hx⟩:=h
 rcases Nat.eq_zero_or_pos ts.length with h0|h0
 ·have:ts=[]:=List.eq_nil_of_length_eq_zero h0
  subst this
  refine(Tryz.strings_Join_none A c ⟨#[32]⟩ w).mono ?_
  rintro e w' ⟨rfl,rfl⟩
  exact⟨_,rfl,rfl,Below.refl _ _⟩
 ·obtain⟨g,o,rfl,hg,hcell⟩:=hx h0
  have e1:(ts.map sb).length=ts.length:=List.length_map _
  have e2:(ts.map sb).map (fun s:ByteArray=>s.data.toList)=ts:=by rw[List.map_map];exact List.map_id' ts
  have h2:=Tryz.strings_Join g o c (ts.map sb) ⟨#[32]⟩ w (fun j x hj=>hcell j _ (by
    unfold scells
    rw[List.getElem?_map] at hj ⊢
    cases hq:ts[j]? with
    | none=>rw[hq] at hj;cases hj
    | some y=>rw[hq] at hj;simp only[Option.map_some,Option.some.injEq] at hj ⊢;rw[hj])) hg (by rw[e1];omega) (by rw[e1];exact hc) (by rw[e2];exact Nat.le_trans hL (by decide))
  rw[e1,e2] at h2
  refine h2.mono ?_
  rintro e w' ⟨rfl,hb⟩
  exact⟨_,rfl,rfl,hb⟩


def nameSV (m:Int) (t:List UInt8):List UInt8:=if nameB t m then t else []
def nameSE (m:Int) (t:List UInt8):Int:=if nameB t m then 0 else 5
def NBox (w:World) (b:Nat) (x:Int) (T:TypeId):Prop:=w.heap[b]? = some (.cells #[.int .i64 x] T (0,0))
theorem NBox.cell {w:World} {b:Nat} {x:Int} {T:TypeId} (h:NBox w b x T):w.cell? ⟨b,0,none⟩=some (.int .i64 x):=blkCell h 0 rfl
theorem NBox.off {w w':World} {g b:Nat} {x:Int} {T:TypeId} (h:NBox w b x T) (ho:Off g w w') (hb:b≠g):NBox w' b x T :=
 (ho.block b (Array.getElem?_eq_some_iff.1 h).1 (by intro e;injection e with e;exact hb e)).trans h
theorem NBox.below {w w':World} {b:Nat} {x:Int} {T:TypeId} (h:NBox w b x T) (hb:Below w.heap.size w w'):NBox w' b x T :=
 (hb.block b (Array.getElem?_eq_some_iff.1 h).1).trans h
theorem nbox_new (w:World) (x:Int) (T:TypeId):NBox (w.alloc (.cells #[.int .i64 x] T)) w.heap.size x T:=heap_alloc_new w _
def StrSPost (V:List UInt8→List UInt8) (E:List UInt8→Int) (s:Sc) (g:Nat) (w:World) (e:Ending) (w':World):Prop:=e=.returned (.string (sb (s.tv [] V)))∧ScPost (s.tk E) g w w'
theorem StrSPost.mk {V:List UInt8→List UInt8} {E:List UInt8→Int} {s:Sc} {g:Nat} {w w':World} {x:List UInt8} (h1:s.tv [] V=x) (h2:ScPost (s.tk E) g w w'):StrSPost V E s g w (.returned (.string (sb x))) w':=by
 unfold StrSPost;rw[h1];exact⟨rfl,h2⟩
def NamePost (m:Int) (t:ByteArray) (w:World) (e:Ending) (w':World):Prop:=e=.returned (.tuple #[.string (sb (nameSV m (bl t))),.int .i64 (nameSE m (bl t))])∧w=w'
theorem nameClo_any (t:ByteArray) (m:Int) (b:Nat) (w:World) (ht:t.size≤maxLen) (hb:NBox w b m 3) :
  Calls Tryz.prog 311 #[.string t,.pointer (some ⟨b,0,none⟩)] w (NamePost m t w):=by
 have hc:=hb.cell
 have HF:Hid (∀(x:ByteArray) (k:Int) w',x=sb (nameSV m (bl t))→k=nameSE m (bl t)→w=w'→NamePost m t w (.returned (.tuple #[.string x,.int .i64 k])) w'):=by
  rintro x k w' rfl rfl rfl;exact⟨rfl,rfl⟩
 clear hb
 cases hn:nameB (bl t) m
 ·have HV:Hid ((⟨#[]⟩:ByteArray)=sb (nameSV m (bl t))∧(5:Int)=nameSE m (bl t)):=by unfold Hid nameSV nameSE;rw[hn];exact⟨rfl,rfl⟩
  have HN:=Lib.hid hn
  clear hn
  go_enter Tryz.func311,Tryz.ntmps311
  go_wp2_with fail
  refine(name_any t m _ ht).mono ?_
  rintro e w' ⟨rfl,rfl⟩
  rw[HN.out]
  go_wp2
  go_ret2
  exact HF.out _ _ _ HV.out.1 HV.out.2 rfl
 ·have HV:Hid (t=sb (nameSV m (bl t))∧(0:Int)=nameSE m (bl t)):=by unfold Hid nameSV nameSE;rw[hn];exact⟨(sb_bl t).symm,rfl⟩
  have HN:=Lib.hid hn
  clear hn
  go_enter Tryz.func311,Tryz.ntmps311
  go_wp2_with fail
  refine(name_any t m _ ht).mono ?_
  rintro e w' ⟨rfl,rfl⟩
  rw[HN.out]
  go_wp2
  go_ret2
  exact HF.out _ _ _ HV.out.1 HV.out.2 rfl
theorem nameS_zero {m:Int} {t:List UInt8} (h:nameSE m t≠0):nameSV m t=[]:=by
 unfold nameSE at h;unfold nameSV
 by_cases h1:nameB t m=true
 ·rw[if_pos h1] at h;exact absurd rfl h
 ·rw[if_neg h1]
set_option maxRecDepth 100000 in
set_option maxHeartbeats 1000000 in
theorem takenName_any (m:Int) (b:Nat) (s:Sc) (g:Nat) (w:World) (hts:s.text.length≤140737488351232) (hbg:b≠g) (hbx:NBox w b m 3) (h:ScP w g s) :
  Calls Tryz.prog 310 #[.pointer (some ⟨g,0,none⟩),.func (.func 311) #[] #[.pointer (some ⟨b,0,none⟩)]] w (StrSPost (nameSV m) (nameSE m) s g w):=by
 have H:=Lib.hid h
 have HBX:=Lib.hid hbx
 clear h hbx
 cases hg:s.got
 ·have HG:=Lib.hid hg
  have HF1:=Lib.hid (Sc.tv_no hg ([]:List UInt8) (nameSV m))
  have HF2:=Lib.hid (Sc.tk_no hg (nameSE m))
  clear hg
  go_enter Tryz.func310,Tryz.ntmps310
  go_wp2_with fail
  refine(take_any s g _ H.out).mono ?_
  rintro e w1 ⟨rfl,hp⟩
  rw[HG.out]
  have HP:=Lib.hid hp
  clear hp
  go_wp2
  go_ret
  exact StrSPost.mk HF1.out (by rw[HF2.out];exact HP.out)
 ·have HG:=Lib.hid hg
  have HF1:=Lib.hid (Sc.tv_got hg ([]:List UInt8) (nameSV m))
  have HF2:=Lib.hid (Sc.tk_got hg (nameSE m))
  obtain⟨t,ht⟩:∃t,s.text=t:=⟨_,rfl⟩
  have hsz:=text_size hts
  rw[ht] at HF1 HF2 hsz
  have HT:=Lib.hid ht
  have HSZ:=Lib.hid hsz
  clear hg ht hts hsz
  go_enter Tryz.func310,Tryz.ntmps310
  go_wp2_with fail
  refine(take_any s g _ H.out).mono ?_
  rintro e w1 ⟨rfl,hp⟩
  rw[HG.out,HT.out]
  have HP:=Lib.hid hp
  have HB1:=Lib.hid (HBX.out.off hp.2 hbg)
  clear hp
  go_wp2_with fail
  refine(nameClo_any (sb t) m b _ (by have:=HSZ.out;unfold maxLen;omega) HB1.out).mono ?_
  rintro e w2 ⟨rfl,rfl⟩
  rw[bl_sb]
  have c3:=HP.out.1.c3
  obtain⟨x,hx⟩:∃x,nameSV m t=x:=⟨_,rfl⟩
  obtain⟨er,her⟩:∃x,nameSE m t=x:=⟨_,rfl⟩
  have hz:er≠0→x=[]:=by rw[←her,←hx];exact nameS_zero
  rw[hx] at HF1
  rw[her] at HF2
  rw[hx,her]
  clear hx her
  by_cases h0:er=0
  ·have e1:(er != 0)=false:=bne_eq_false_iff_eq.2 h0
   have HE:Hid (s.tk (nameSE m)=s.take):=by unfold Hid;rw[HF2.out,h0,Sc.note_zero]
   clear h0 hz
   go_wp2
   go_ret
   exact StrSPost.mk HF1.out (by rw[HE.out];exact HP.out)
  ·have e1:(er != 0)=true:=bne_iff_ne.2 h0
   have HX:=Lib.hid (hz h0)
   clear h0 hz
   go_wp2_with fail
   refine(note_any s.take s.take.la er g _ HP.out.1).mono ?_
   rintro e w3 ⟨rfl,hp⟩
   have HP3:=Lib.hid (HP.out.trans hp)
   clear hp
   go_wp2
   go_ret
   exact StrSPost.mk (x:=[]) (by rw[HF1.out,HX.out]) (by rw[HF2.out];exact HP3.out)
set_option maxHeartbeats 1000000 in
theorem nameS_any (m:Int) (s:Sc) (g:Nat) (w:World) (hts:s.text.length≤140737488351232) (h:ScP w g s) :
  Calls Tryz.prog 257 #[.pointer (some ⟨g,0,none⟩),.int .i64 m] w (StrSPost (nameSV m) (nameSE m) s g w):=by
 have hgs:=h.lt
 have H:Hid (ScP (w.alloc (.cells #[.int .i64 m] 3)) g s):=h.alloc _
 have HB:Hid (NBox (w.alloc (.cells #[.int .i64 m] 3)) w.heap.size m 3):=nbox_new w m _
 have HO:Hid (Off g w (w.alloc (.cells #[.int .i64 m] 3))):=(Off.refl g w).alloc _
 clear h
 go_enter Tryz.func257,Tryz.ntmps257
 go_wp2_with fail
 refine(takenName_any m _ s g _ hts (by omega) HB.out H.out).mono ?_
 rintro e w1 ⟨rfl,hp⟩
 have HP:Hid (ScPost (s.tk (nameSE m)) g w w1):=⟨hp.1,HO.out.trans hp.2⟩
 clear hp
 go_wp2
 go_ret
 exact⟨rfl,HP.out⟩
end Go.Proofs.YtgmehlgfilpleaaGreatDoor
