/-
  Several texts as one.
-/
import Derived.Test.YtgmehlgfilpleaaGreatDoorMG11
import Derived.Test.YtgmehlgfilpleaaGreatDoorMG14
import Derived.Test.YtgmehlgfilpleaaGreatDoorShelf
import Derived.Test.YtgmehlgfilpleaaGreatDoorMG04
import Derived.Test.YtgmehlgfilpleaaGreatDoorAwCheck
namespace Go.Proofs.YtgmehlgfilpleaaGreatDoor
open Go.RowKit
set_option linter.unusedVariables false
set_option linter.unusedSimpArgs false

theorem Rd.three {w:World} {n:Nat} {v:Value} {xs:List Value} (h:Rd w 3 v n xs) {k:Nat} (hk:k<n):∃g o c a b d,v=.slice (some ⟨g,o,none⟩) n c∧n≤c∧g<w.heap.size∧xs[k*3]? = some a∧xs[k*3+1]? = some b∧xs[k*3+2]? = some d∧w.cell? ⟨g,o+k*3,none⟩=some a∧w.cell? ⟨g,o+k*3+1,none⟩=some b∧w.cell? ⟨g,o+k*3+2,none⟩=some d:=by
 obtain⟨hl,A,c,hv,hc,hm,hr⟩:=h
 obtain⟨g,o,rfl,hg,hx⟩:=hr (by omega)
 have h1:k*3<xs.length:=by omega
 have h2:k*3+1<xs.length:=by omega
 have h3:k*3+2<xs.length:=by omega
 have e2:=hx _ _ (List.getElem?_eq_getElem h2)
 have e3:=hx _ _ (List.getElem?_eq_getElem h3)
 rw[←Nat.add_assoc] at e2 e3
 exact⟨g,o,c,xs[k*3],xs[k*3+1],xs[k*3+2],hv,hc,hg,List.getElem?_eq_getElem h1,List.getElem?_eq_getElem h2,List.getElem?_eq_getElem h3,hx _ _ (List.getElem?_eq_getElem h1),e2,by rwa [Nat.add_assoc] at e3 ⊢⟩
theorem dcells_at (l:List Dg):∀(k:Nat) (h:k<l.length),(dcells l)[k*3]? = some (.int .i64 (l[k].1:Int))∧(dcells l)[k*3+1]? = some (.int .i64 l[k].2.1)∧(dcells l)[k*3+2]? = some (.int .i64 l[k].2.2):=by
 induction l with
 | nil=>intro k h;simp at h
 | cons d l ih =>
  intro k h
  cases k with
  | zero=>exact⟨rfl,rfl,rfl⟩
  | succ k =>
   have:=ih k (by simpa using h)
   rw[show(k+1)*3=k*3+3 by omega]
   exact this
theorem rcells_at (L:List (Rec × Value)):∀(k:Nat) (h:k<L.length),(rcells L)[k*2]? = some (.int .i64 (L[k].1.1:Int))∧(rcells L)[k*2+1]? = some L[k].2:=by
 induction L with
 | nil=>intro k h;simp at h
 | cons d l ih =>
  intro k h
  cases k with
  | zero=>exact⟨rfl,rfl⟩
  | succ k =>
   have:=ih k (by simpa using h)
   rw[show(k+1)*2=k*2+2 by omega]
   exact this
theorem RecsR.form {w:World} {v:Value} {rs:List Rec} (h:RecsR w v rs):∃A c,v=.slice A rs.length c∧rs.length≤c∧c≤maxLen:=by
 obtain⟨L,_,h2,_⟩:=h
 exact h2.1.form
theorem RecsR.below {w w':World} {v:Value} {rs:List Rec} (h:RecsR w v rs) (hb:Below w.heap.size w w'):RecsR w' v rs:=by
 obtain⟨L,h1,h2,h3⟩:=h
 exact⟨L,h1,h2.below hb,h3.below hb⟩
theorem DgsR.below {w w':World} {v:Value} {ds:List Dg} (h:DgsR w v ds) (hb:Below w.heap.size w w'):DgsR w' v ds:=RdT.below h hb
theorem DgsR.form {w:World} {v:Value} {ds:List Dg} (h:DgsR w v ds):∃A c,v=.slice A ds.length c∧ds.length≤c∧c≤maxLen:=h.1.form
theorem RecsR.at_ {w:World} {v:Value} {rs:List Rec} (h:RecsR w v rs) {k:Nat} (hk:k<rs.length):∃g o c fv,v=.slice (some ⟨g,o,none⟩) rs.length c∧w.cell? ⟨g,o+k*2,none⟩=some (.int .i64 (rs[k].1:Int))∧w.cell? ⟨g,o+k*2+1,none⟩=some fv∧RdT w 244 2 fv rs[k].2.length (fcells rs[k].2):=by
 obtain⟨L,h1,h2,h3⟩:=h
 have hl:L.length=rs.length:=by rw[←h1,List.length_map]
 have hkL:k<L.length:=by omega
 have e:L[k].1=rs[k]:=by simp only[←h1,List.getElem_map]
 obtain⟨g,o,c,a,b,hv,_,_,x1,x2,y1,y2⟩:=h2.1.two hk
 have:=rcells_at L k hkL
 rw[this.1,Option.some.injEq] at x1
 rw[this.2,Option.some.injEq] at x2
 subst x1 x2
 rw[e] at y1
 refine⟨g,o,c,_,hv,y1,y2,?_⟩
 rw[←e]
 exact h3 _ (List.getElem_mem hkL)
theorem DgsR.at_ {w:World} {v:Value} {ds:List Dg} (h:DgsR w v ds) {k:Nat} (hk:k<ds.length):∃g o c,v=.slice (some ⟨g,o,none⟩) ds.length c∧w.cell? ⟨g,o+k*3,none⟩=some (.int .i64 (ds[k].1:Int))∧w.cell? ⟨g,o+k*3+1,none⟩=some (.int .i64 ds[k].2.1)∧w.cell? ⟨g,o+k*3+2,none⟩=some (.int .i64 ds[k].2.2):=by
 obtain⟨g,o,c,a,b,d,hv,_,_,x1,x2,x3,y1,y2,y3⟩:=Rd.three h.1 hk
 have:=dcells_at ds k hk
 rw[this.1,Option.some.injEq] at x1
 rw[this.2.1,Option.some.injEq] at x2
 rw[this.2.2,Option.some.injEq] at x3
 subst x1 x2 x3
 exact⟨g,o,c,hv,y1,y2,y3⟩



def winSLo (l:List UInt8):Int:=pwLo l (winSpec l)
def winSHi (l:List UInt8):Int:=pwHi l (winSpec l)
def winSEr (l:List UInt8):Int:=pwErr l (winSpec l)
def WinSPost (s:Sc) (g:Nat) (w:World) (e:Ending) (w':World):Prop :=
 e=.returned (.agg #[.int .i64 (s.tv 0 winSLo),.int .i64 (s.tv 0 winSHi)])∧ScPost (s.tk winSEr) g w w'
theorem WinSPost.mk {s:Sc} {g:Nat} {w w':World} {a b:Int} (h1:s.tv 0 winSLo=a) (h2:s.tv 0 winSHi=b) (h:ScPost (s.tk winSEr) g w w'):WinSPost s g w (.returned (.agg #[.int .i64 a,.int .i64 b])) w':=by
 unfold WinSPost;rw[h1,h2];exact⟨rfl,h⟩

def TxR (w:World) (v:Value) (ts:List (List UInt8)):Prop :=
 ∃xs:List Value,Rd w 2 v ts.length xs∧∀k (h:k<ts.length),xs[k*2]? = some (.string (sb ts[k]))∧∃n:Int,xs[k*2+1]? = some (.int .i64 n)
theorem TxR.form {w:World} {v:Value} {ts:List (List UInt8)} (h:TxR w v ts):∃A c,v=.slice A ts.length c∧ts.length≤c∧c≤maxLen:=by
 obtain⟨xs,h1,_⟩:=h;exact h1.form
theorem TxR.below {w w':World} {v:Value} {ts:List (List UInt8)} (h:TxR w v ts) (hb:Below w.heap.size w w'):TxR w' v ts:=by
 obtain⟨xs,h1,h2⟩:=h;exact⟨xs,h1.below hb,h2⟩
theorem TxR.at_ {w:World} {v:Value} {ts:List (List UInt8)} (h:TxR w v ts) {k:Nat} (hk:k<ts.length) :
  ∃g o c,∃n:Int,v=.slice (some ⟨g,o,none⟩) ts.length c∧g<w.heap.size∧w.cell? ⟨g,o+k*2,none⟩=some (.string (sb ts[k]))∧w.cell? ⟨g,o+k*2+1,none⟩=some (.int .i64 n):=by
 obtain⟨xs,h1,h2⟩:=h
 obtain⟨g,o,c,a,b,hv,_,hg,x1,x2,y1,y2⟩:=h1.two hk
 obtain⟨z1,n,z2⟩:=h2 k hk
 rw[z1,Option.some.injEq] at x1
 rw[z2,Option.some.injEq] at x2
 subst x1 x2
 exact⟨g,o,c,n,hv,hg,y1,y2⟩
def LnR (w:World) (v:Value) (L:List (List (List UInt8))):Prop :=
 ∃xs:List Value,Rd w 2 v L.length xs∧∀k (h:k<L.length),∃(n:Int) (fv:Value),xs[k*2]? = some (.int .i64 n)∧xs[k*2+1]? = some fv∧TxR w fv L[k]
theorem LnR.form {w:World} {v:Value} {L:List (List (List UInt8))} (h:LnR w v L):∃A c,v=.slice A L.length c∧L.length≤c∧c≤maxLen:=by
 obtain⟨xs,h1,_⟩:=h;exact h1.form
theorem LnR.below {w w':World} {v:Value} {L:List (List (List UInt8))} (h:LnR w v L) (hb:Below w.heap.size w w'):LnR w' v L:=by
 obtain⟨xs,h1,h2⟩:=h
 exact⟨xs,h1.below hb,fun k hk=>by obtain⟨n,fv,x0,x1,x2⟩:=h2 k hk;exact⟨n,fv,x0,x1,x2.below hb⟩⟩
theorem LnR.at_ {w:World} {v:Value} {L:List (List (List UInt8))} (h:LnR w v L) {k:Nat} (hk:k<L.length) :
  ∃g o c,∃(a:Int) (fv:Value),v=.slice (some ⟨g,o,none⟩) L.length c∧g<w.heap.size∧w.cell? ⟨g,o+k*2,none⟩=some (.int .i64 a)∧w.cell? ⟨g,o+k*2+1,none⟩=some fv∧TxR w fv L[k]:=by
 obtain⟨xs,h1,h2⟩:=h
 obtain⟨g,o,c,a,b,hv,_,hg,x1,x2,y1,y2⟩:=h1.two hk
 obtain⟨n,fv,z0,z1,z2⟩:=h2 k hk
 rw[z0,Option.some.injEq] at x1
 rw[z1,Option.some.injEq] at x2
 subst x1 x2
 exact⟨g,o,c,n,fv,hv,hg,y1,y2,z2⟩

def nameSV (m:Int) (t:List UInt8):List UInt8:=if nameB t m then t else []
def nameSE (m:Int) (t:List UInt8):Int:=if nameB t m then 0 else 5
def NBox (w:World) (b:Nat) (x:Int) (T:TypeId):Prop:=w.heap[b]? = some (.cells #[.int .i64 x] T (0,0))
theorem NBox.cell {w:World} {b:Nat} {x:Int} {T:TypeId} (h:NBox w b x T):w.cell? ⟨b,0,none⟩=some (.int .i64 x):=blkCell h 0 rfl
theorem NBox.off {w w':World} {g b:Nat} {x:Int} {T:TypeId} (h:NBox w b x T) (ho:Off g w w') (hb:b≠g):NBox w' b x T :=
 (ho.block b (Array.getElem?_eq_some_iff.1 h).1 (by intro e;injection e with e;exact hb e)).trans h
theorem NBox.below {w w':World} {b:Nat} {x:Int} {T:TypeId} (h:NBox w b x T) (hb:Below w.heap.size w w'):NBox w' b x T :=
 (hb.block b (Array.getElem?_eq_some_iff.1 h).1).trans h
theorem nbox_new (w:World) (x:Int) (T:TypeId):NBox (w.alloc (.cells #[.int .i64 x] T)) w.heap.size x T:=heap_alloc_new w _
def StrSPost (V:List UInt8→List UInt8) (E:List UInt8→Int) (s:Sc) (g:Nat) (w:World) (e:Ending) (w':World):Prop:=e=.returned (.string (sb (s.tv [] V)))∧ScPost (s.tk E) g w w'
theorem StrSPost.mk {V:List UInt8→List UInt8} {E:List UInt8→Int} {s:Sc} {g:Nat} {w w':World} {x:List UInt8} (h1:s.tv [] V=x) (h2:ScPost (s.tk E) g w w'):StrSPost V E s g w (.returned (.string (sb x))) w':=by
 unfold StrSPost;rw[h1];exact⟨rfl,h2⟩
def NamePost (m:Int) (t:ByteArray) (w:World) (e:Ending) (w':World):Prop:=e=.returned (.tuple #[.string (sb (nameSV m (bl t))),.int .i64 (nameSE m (bl t))])∧w=w'
theorem nameClo_any (t:ByteArray) (m:Int) (b:Nat) (w:World) (ht:t.size≤maxLen) (hb:NBox w b m 3) :
  Calls Tryz.prog 311 #[.string t,.pointer (some ⟨b,0,none⟩)] w (NamePost m t w):=by
 have hc:=hb.cell
 have HF:Hid (∀(x:ByteArray) (k:Int) w',x=sb (nameSV m (bl t))→k=nameSE m (bl t)→w=w'→NamePost m t w (.returned (.tuple #[.string x,.int .i64 k])) w'):=by
  rintro x k w' rfl rfl rfl;exact⟨rfl,rfl⟩
 clear hb
 cases hn:nameB (bl t) m
 ·have HV:Hid ((⟨#[]⟩:ByteArray)=sb (nameSV m (bl t))∧(5:Int)=nameSE m (bl t)):=by unfold Hid nameSV nameSE;rw[hn];exact⟨rfl,rfl⟩
  have HN:=Lib.hid hn
  clear hn
  go_enter Tryz.func311,Tryz.ntmps311
  go_wp2_with fail
  refine(name_any t m _ ht).mono ?_
  rintro e w' ⟨rfl,rfl⟩
  rw[HN.out]
  go_wp2
  go_ret2
  exact HF.out _ _ _ HV.out.1 HV.out.2 rfl
 ·have HV:Hid (t=sb (nameSV m (bl t))∧(0:Int)=nameSE m (bl t)):=by unfold Hid nameSV nameSE;rw[hn];exact⟨(sb_bl t).symm,rfl⟩
  have HN:=Lib.hid hn
  clear hn
  go_enter Tryz.func311,Tryz.ntmps311
  go_wp2_with fail
  refine(name_any t m _ ht).mono ?_
  rintro e w' ⟨rfl,rfl⟩
  rw[HN.out]
  go_wp2
  go_ret2
  exact HF.out _ _ _ HV.out.1 HV.out.2 rfl
theorem nameS_zero {m:Int} {t:List UInt8} (h:nameSE m t≠0):nameSV m t=[]:=by
 unfold nameSE at h;unfold nameSV
 by_cases h1:nameB t m=true
 ·rw[if_pos h1] at h;exact absurd rfl h
 ·rw[if_neg h1]
set_option maxRecDepth 100000 in
set_option maxHeartbeats 1000000 in
theorem takenName_any (m:Int) (b:Nat) (s:Sc) (g:Nat) (w:World) (hts:s.text.length≤140737488351232) (hbg:b≠g) (hbx:NBox w b m 3) (h:ScP w g s) :
  Calls Tryz.prog 310 #[.pointer (some ⟨g,0,none⟩),.func (.func 311) #[] #[.pointer (some ⟨b,0,none⟩)]] w (StrSPost (nameSV m) (nameSE m) s g w):=by
 have H:=Lib.hid h
 have HBX:=Lib.hid hbx
 clear h hbx
 cases hg:s.got
 ·have HG:=Lib.hid hg
  have HF1:=Lib.hid (Sc.tv_no hg ([]:List UInt8) (nameSV m))
  have HF2:=Lib.hid (Sc.tk_no hg (nameSE m))
  clear hg
  go_enter Tryz.func310,Tryz.ntmps310
  go_wp2_with fail
  refine(take_any s g _ H.out).mono ?_
  rintro e w1 ⟨rfl,hp⟩
  rw[HG.out]
  have HP:=Lib.hid hp
  clear hp
  go_wp2
  go_ret
  exact StrSPost.mk HF1.out (by rw[HF2.out];exact HP.out)
 ·have HG:=Lib.hid hg
  have HF1:=Lib.hid (Sc.tv_got hg ([]:List UInt8) (nameSV m))
  have HF2:=Lib.hid (Sc.tk_got hg (nameSE m))
  obtain⟨t,ht⟩:∃t,s.text=t:=⟨_,rfl⟩
  have hsz:=text_size hts
  rw[ht] at HF1 HF2 hsz
  have HT:=Lib.hid ht
  have HSZ:=Lib.hid hsz
  clear hg ht hts hsz
  go_enter Tryz.func310,Tryz.ntmps310
  go_wp2_with fail
  refine(take_any s g _ H.out).mono ?_
  rintro e w1 ⟨rfl,hp⟩
  rw[HG.out,HT.out]
  have HP:=Lib.hid hp
  have HB1:=Lib.hid (HBX.out.off hp.2 hbg)
  clear hp
  go_wp2_with fail
  refine(nameClo_any (sb t) m b _ (by have:=HSZ.out;unfold maxLen;omega) HB1.out).mono ?_
  rintro e w2 ⟨rfl,rfl⟩
  rw[bl_sb]
  have c3:=HP.out.1.c3
  obtain⟨x,hx⟩:∃x,nameSV m t=x:=⟨_,rfl⟩
  obtain⟨er,her⟩:∃x,nameSE m t=x:=⟨_,rfl⟩
  have hz:er≠0→x=[]:=by rw[←her,←hx];exact nameS_zero
  rw[hx] at HF1
  rw[her] at HF2
  rw[hx,her]
  clear hx her
  by_cases h0:er=0
  ·have e1:(er != 0)=false:=bne_eq_false_iff_eq.2 h0
   have HE:Hid (s.tk (nameSE m)=s.take):=by unfold Hid;rw[HF2.out,h0,Sc.note_zero]
   clear h0 hz
   go_wp2
   go_ret
   exact StrSPost.mk HF1.out (by rw[HE.out];exact HP.out)
  ·have e1:(er != 0)=true:=bne_iff_ne.2 h0
   have HX:=Lib.hid (hz h0)
   clear h0 hz
   go_wp2_with fail
   refine(note_any s.take s.take.la er g _ HP.out.1).mono ?_
   rintro e w3 ⟨rfl,hp⟩
   have HP3:=Lib.hid (HP.out.trans hp)
   clear hp
   go_wp2
   go_ret
   exact StrSPost.mk (x:=[]) (by rw[HF1.out,HX.out]) (by rw[HF2.out];exact HP3.out)
set_option maxHeartbeats 1000000 in
theorem nameS_any (m:Int) (s:Sc) (g:Nat) (w:World) (hts:s.text.length≤140737488351232) (h:ScP w g s) :
  Calls Tryz.prog 257 #[.pointer (some ⟨g,0,none⟩),.int .i64 m] w (StrSPost (nameSV m) (nameSE m) s g w):=by
 have hgs:=h.lt
 have H:Hid (ScP (w.alloc (.cells #[.int .i64 m] 3)) g s):=h.alloc _
 have HB:Hid (NBox (w.alloc (.cells #[.int .i64 m] 3)) w.heap.size m 3):=nbox_new w m _
 have HO:Hid (Off g w (w.alloc (.cells #[.int .i64 m] 3))):=(Off.refl g w).alloc _
 clear h
 go_enter Tryz.func257,Tryz.ntmps257
 go_wp2_with fail
 refine(takenName_any m _ s g _ hts (by omega) HB.out H.out).mono ?_
 rintro e w1 ⟨rfl,hp⟩
 have HP:Hid (ScPost (s.tk (nameSE m)) g w w1):=⟨hp.1,HO.out.trans hp.2⟩
 clear hp
 go_wp2
 go_ret
 exact⟨rfl,HP.out⟩

theorem ficells_drop:∀(l:List FldI) (k:Nat),ficells (l.drop k)=(ficells l).drop (k*2)
 | [],k=>by simp[ficells]
 | f::l,0=>by simp
 | f::l,k+1=>by
  rw[List.drop_succ_cons,ficells_cons,ficells_drop l k,show(k+1)*2=k*2+1+1 by omega,List.drop_succ_cons,List.drop_succ_cons]
theorem FsR.tx {w:World} {g b o c:Nat} {fs:List FldI} (h:FsR w g (.slice (some ⟨b,o,none⟩) fs.length c) fs) (hg:g≤w.heap.size) {k:Nat} (hk:k<fs.length) :
  TxR w (.slice (some ⟨b,o+k*2,none⟩) (fs.length-k) (c-k)) ((fs.drop k).map (·.1)):=by
 obtain⟨A,c',hv,hc,hm,hf,hr⟩:=h
 obtain⟨b',o',rfl,hb,hx⟩:=hr (by omega)
 simp only[Value.slice.injEq,Option.some.injEq,Addr.mk.injEq,true_and,and_true] at hv
 obtain⟨⟨rfl,rfl⟩,rfl⟩:=hv
 have hl:((fs.drop k).map (·.1)).length=fs.length-k:=by rw[List.length_map,List.length_drop]
 refine⟨ficells (fs.drop k),⟨by rw[ficells_len,hl,List.length_drop],_,_,by rw[hl],by rw[hl];omega,by omega,fun _=>⟨b,o+k*2,rfl,by omega,fun j u hu => ?_⟩⟩,fun j hj => ?_⟩
 ·rw[ficells_drop,List.getElem?_drop] at hu
  have:=hx _ _ hu
  rwa [←Nat.add_assoc] at this
 ·rw[hl] at hj
  have:=ficells_at (fs.drop k) j (by rw[List.length_drop];exact hj)
  rw[List.getElem_map]
  exact⟨this.1,_,this.2⟩

/-- a record: its number, its fields -/
abbrev Ln := Int × List FldI
def airW : List (List UInt8) := [[65, 73, 82, 87, 65, 89]]
/-- the name of an airway's first record -/
def hd1 (x : Ln) : Sc := (scan0 x.1 x.2).tk (wordE airW)
def hd2 (x : Ln) : Sc := (hd1 x).tk (nameSE 8)
/-- records whose parts fit -/
def LnOk (x : Ln) : Prop := x.2.length ≤ 5864062014634 ∧ ∀ f ∈ x.2, f.1.length ≤ 140737488351232
/-- records in memory -/
def LnsR (w : World) (v : Value) (L : List Ln) : Prop :=
  ∃ A c, v = .slice A L.length c ∧ L.length ≤ c ∧ c ≤ maxLen ∧ (∀ x ∈ L, LnOk x) ∧ (0 < L.length → ∃ g o, A = some ⟨g, o, none⟩ ∧ g < w.heap.size ∧
    ∀ k (h : k < L.length), ∃ fv, w.cell? ⟨g, o + k * 2, none⟩ = some (.int .i64 L[k].1) ∧ w.cell? ⟨g, o + k * 2 + 1, none⟩ = some fv ∧ FsR w w.heap.size fv L[k].2)
theorem FsR.grow' {w w' : World} {v : Value} {fs : List FldI} (h : FsR w w.heap.size v fs) (hb : Below w.heap.size w w') : FsR w' w'.heap.size v fs :=
  (h.keep fun k hk => hb.block k hk).mono hb.size
theorem LnsR.below {w w' : World} {v : Value} {L : List Ln} (h : LnsR w v L) (hb : Below w.heap.size w w') : LnsR w' v L := by
  obtain ⟨A, c, hv, hc, hm, hk, hr⟩ := h
  refine ⟨A, c, hv, hc, hm, hk, fun h0 => ?_⟩
  obtain ⟨g, o, hA, hg, hx⟩ := hr h0
  refine ⟨g, o, hA, Nat.lt_of_lt_of_le hg hb.size, fun k hk => ?_⟩
  obtain ⟨fv, h1, h2, h3⟩ := hx k hk
  exact ⟨fv, (hb.cell (p := ⟨g, o + k * 2, none⟩) hg).trans h1, (hb.cell (p := ⟨g, o + k * 2 + 1, none⟩) hg).trans h2, h3.grow' hb⟩
theorem LnsR.form {w : World} {v : Value} {L : List Ln} (h : LnsR w v L) : ∃ A c, v = .slice A L.length c ∧ L.length ≤ c ∧ c ≤ maxLen := by
  obtain ⟨A, c, hv, hc, hm, _⟩ := h; exact ⟨A, c, hv, hc, hm⟩
theorem LnsR.at_ {w : World} {v : Value} {L : List Ln} (h : LnsR w v L) {k : Nat} (hk : k < L.length) :
    ∃ g o c fv, v = .slice (some ⟨g, o, none⟩) L.length c ∧ g < w.heap.size ∧ w.cell? ⟨g, o + k * 2, none⟩ = some (.int .i64 L[k].1) ∧ w.cell? ⟨g, o + k * 2 + 1, none⟩ = some fv ∧ FsR w w.heap.size fv L[k].2 ∧ LnOk L[k] := by
  obtain ⟨A, c, hv, hc, hm, hok, hr⟩ := h
  obtain ⟨g, o, rfl, hg, hx⟩ := hr (by omega)
  obtain ⟨fv, h1, h2, h3⟩ := hx k hk
  exact ⟨g, o, c, fv, hv, hg, h1, h2, h3, hok _ (List.getElem_mem hk)⟩
theorem LnOk.text {s : Sc} (h : ∀ f ∈ s.fs, f.1.length ≤ 140737488351232) : s.text.length ≤ 140737488351232 := by
  unfold Sc.text
  split
  · unfold fld
    rcases Nat.lt_or_ge s.nx s.fs.length with h1 | h1
    · rw [List.getD_eq_getElem?_getD, List.getElem?_eq_getElem h1]
      simp only [Option.getD_some]; exact h _ (List.getElem_mem h1)
    · rw [List.getD_eq_getElem?_getD, List.getElem?_eq_none h1]; simp
  · simp

end Go.Proofs.YtgmehlgfilpleaaGreatDoor
namespace Go.Proofs.YtgmehlgfilpleaaGreatDoor
set_option linter.unusedVariables false
set_option linter.unusedSimpArgs false

def joinW (W:List (List (List UInt8))):List UInt8:=W.flatMap fun ws=>unW ws++[10]
def numW (n:Nat):List (List (List UInt8))→List Rec
 | []=>[]
 | ws::W=>(n,colsW 0 ws)::numW (n+1) W
structure WsOk (ws:List (List UInt8)):Prop where
 ne:ws≠[]
 tok:∀w∈ws,w≠[]∧w.all tokB=true
 len:(unW ws).length≤200
theorem WsOk.no10 {ws:List (List UInt8)} (h:WsOk ws):(10:UInt8) ∉ unW ws:=fun hm=>by
 have:=List.all_eq_true.1 (unW_ok ws h.tok).1 10 hm
 exact absurd this (by decide)
theorem linesL_joinW:∀(W:List (List (List UInt8))),(∀ws∈W,WsOk ws)→linesL (joinW W)=W.map unW++[[]]
 | [],_=>rfl
 | ws::W,h=>by
  have e:joinW (ws::W)=unW ws++10::joinW W:=by
   unfold joinW;rw[List.flatMap_cons,List.append_assoc];rfl
  rw[e,linesL_cut,cutAt_mid (h ws (by simp)).no10,if_pos rfl,linesL_joinW W (fun x hx=>h x (List.mem_cons_of_mem _ hx))]
  rfl
theorem recs_joinW:∀(W:List (List (List UInt8))) (n:Nat),(∀ws∈W,WsOk ws)→recsL n (W.map unW++[[]])=numW n W∧dgsL n (W.map unW++[[]])=[]
 | [],n,_=>⟨rfl,rfl⟩
 | ws::W,n,h=>by
  have hw:=h ws (by simp)
  have hs:=split_unW hw.tok hw.len
  obtain⟨i1,i2⟩:=recs_joinW W (n+1) (fun x hx=>h x (List.mem_cons_of_mem _ hx))
  have hr:isRec (unW ws)=true:=by
   unfold isRec
   rw[hs.1,hs.2]
   have:(colsW 0 ws).isEmpty=false:=by
    rw[List.isEmpty_eq_false_iff]
    intro e
    have:=congrArg List.length e
    rw[colsW_len] at this
    exact hw.ne (List.eq_nil_of_length_eq_zero (by simpa using this))
   rw[this];rfl
  constructor
  ·show(if isRec (unW ws) then (n,splitF (unW ws))::recsL (n+1) (W.map unW++[[]]) else _)=_
   rw[if_pos hr,hs.2,i1];rfl
  ·show(if splitErr (unW ws) == 0 then dgsL (n+1) (W.map unW++[[]]) else _)=_
   rw[hs.1,if_pos (by decide)];exact i2
theorem joinW_len:∀(W:List (List (List UInt8))),(∀ws∈W,WsOk ws)→(joinW W).length≤W.length*201
 | [],_=>Nat.zero_le _
 | ws::W,h=>by
  have:=joinW_len W (fun x hx=>h x (List.mem_cons_of_mem _ hx))
  have h2:=(h ws (by simp)).len
  unfold joinW at this ⊢
  rw[List.flatMap_cons,List.length_append,List.length_append,List.length_cons,List.length_cons]
  simp only[List.length_nil]
  omega
theorem read_joinW {W:List (List (List UInt8))} (h:∀ws∈W,WsOk ws) (hl:W.length≤1000):readRecs (joinW W)=numW 1 W∧readDgs (joinW W)=[]:=by
 have h1:=joinW_len W h
 have h2:=recs_joinW W 1 h
 unfold readRecs readDgs
 rw[if_neg (by omega),if_neg (by omega),linesL_joinW W h,h2.1,h2.2]
 exact⟨rfl,rfl⟩
def lnOf (r:Rec):Ln:=((r.1:Int),fldI r.2)
theorem recs_small:∀(ls:List (List UInt8)) (n:Nat),∀r∈recsL n ls,(∀f∈r.2,f.1.length≤200)∧r.2.length≤201
 | [],n,r,h=>by cases h
 | l::ls,n,r,h=>by
  have h2:r∈(if isRec l then (n,splitF l)::recsL (n+1) ls else recsL (n+1) ls):=h
  split at h2
  ·rcases List.mem_cons.1 h2 with rfl|h2
   ·exact splitF_small l
   ·exact recs_small ls (n+1) r h2
  ·exact recs_small ls (n+1) r h2
theorem readRecs_small (s:List UInt8):(∀r∈readRecs s,(∀f∈r.2,f.1.length≤200)∧r.2.length≤201)∧(readRecs s).length≤262145:=by
 unfold readRecs
 split
 ·exact⟨by simp,by simp⟩
 ·have h1:=recsL_len (linesL s) 1
  have h2:=linesL_len s
  exact⟨recs_small _ _,by omega⟩
theorem lns_of {w:World} {v:Value} {rs:List Rec} (h:RecsR w v rs) (hs:∀r∈rs,(∀f∈r.2,f.1.length≤200)∧r.2.length≤201):LnsR w v (rs.map lnOf):=by
 obtain⟨L,hL,⟨⟨hl,A,c,hv,hc,hm,hr⟩,_⟩,hF⟩:=h
 have hlen:(rs.map lnOf).length=rs.length:=List.length_map _
 have hLl:L.length=rs.length:=by rw[←hL,List.length_map]
 refine⟨A,c,by rw[hlen];exact hv,by rw[hlen];exact hc,hm,?_,fun h0 => ?_⟩
 ·intro x hx
  rw[List.mem_map] at hx
  obtain⟨r,hr,rfl⟩:=hx
  have:=hs r hr
  refine⟨by show(fldI r.2).length≤_;rw[fldI_len];omega,fldI_small this.1 (by omega)⟩
 ·rw[hlen] at h0
  obtain⟨g,o,hA,hg,hx⟩:=hr h0
  refine⟨g,o,hA,hg,fun k hk => ?_⟩
  rw[hlen] at hk
  have hkL:k<L.length:=by omega
  have hrk:L[k].1=rs[k]:=by
   have:(L.map (·.1))[k]? = rs[k]? := by rw[hL]
   rw[List.getElem?_map,List.getElem?_eq_getElem hkL,List.getElem?_eq_getElem hk] at this
   simpa using this
  have hk2:∀c∈L.map (fun x=>[Value.int .i64 (x.1.1:Int),x.2]),c.length=2:=by
   intro c hc;rw[List.mem_map] at hc;obtain⟨p,_,rfl⟩:=hc;rfl
  have e:rcells L=(L.map fun x=>[Value.int .i64 (x.1.1:Int),x.2]).flatten:=by unfold rcells;rw[List.flatMap_def]
  have f0:=flat_at _ hk2 k 0 (by rw[List.length_map];exact hkL) (by decide)
  have f1:=flat_at _ hk2 k 1 (by rw[List.length_map];exact hkL) (by decide)
  rw[←e,List.getElem_map] at f0 f1
  have c0:=hx _ _ f0
  have c1:=hx _ _ f1
  rw[Nat.add_zero] at c0
  rw[←Nat.add_assoc] at c1
  rw[hrk] at c0
  refine⟨L[k].2,?_,c1,?_⟩
  ·rw[List.getElem_map];exact c0
  ·rw[List.getElem_map]
   have hf:=hF _ (List.getElem_mem hkL)
   rw[hrk] at hf
   exact fsr_of hf (hs _ (List.getElem_mem hk)).1
end Go.Proofs.YtgmehlgfilpleaaGreatDoor
