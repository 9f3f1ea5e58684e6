/-
  Contract: the copy of a database with few elements (flightdecklaw18.Few).
-/
import Derived.Test.YtgmehlgfilpleaaGreatDoorImF
import Derived.Test.YtgmehlgfilpleaaGreatDoorMG04
import Derived.Lib.MinMax
namespace Go.Proofs.YtgmehlgfilpleaaGreatDoor
open Go.RowKit
set_option linter.unusedVariables false
set_option linter.unusedSimpArgs false
theorem pre_cell {l1 l2:List Value} {j:Nat} {u:Value} (h:l1[j]? = some u):(l1++l2)[j]? = some u:=by
 rw[List.getElem?_append_left (List.getElem?_eq_some_iff.1 h).1];exact h
theorem Rd.src {α : Type} {w w':World} {k cp:Nat} {A:Option Addr} {c : α → List Value} {l:List α} {n:Nat} (hn:l.length=n) (h:Rd w k (.slice A n cp) l.length (l.flatMap c)) (hb:Below w.heap.size w w') (m:Nat) (hm:m≤n) :
  0<m→∃ad,A=some ad∧∀j u,((l.take m).flatMap c)[j]? = some u→w'.cell? (ad.add j)=some u:=by
 intro h0
 obtain⟨_,A',c',hv,_,_,hx⟩:=h
 injection hv with e1 e2 e3
 obtain⟨g,o,hA,hg,hcell⟩:=hx (by omega)
 refine⟨⟨g,o,none⟩,e1.trans hA,fun j u hu => ?_⟩
 have h1:l.flatMap c=(l.take m).flatMap c++(l.drop m).flatMap c:=by rw[←List.flatMap_append,List.take_append_drop]
 have h2:=(hb.cell (p:=⟨g,o+j,none⟩) hg).trans (hcell j u (by rw[h1];exact pre_cell hu))
 simp only[Addr.add]
 split
 ·rename_i hj0
  rw[hj0] at h2
  exact h2
 ·exact h2
theorem fxc_len7 (l:List Fx):(l.flatMap fxc).length=l.length*7:=fxcells_len l
theorem fxc_one (l:List Fx):∀u∈l.flatMap fxc,u.oneCell'=true:=by
 intro u hu
 obtain⟨f,_,hf⟩:=List.mem_flatMap.1 hu
 simp only[fxc,List.mem_cons,List.not_mem_nil,or_false] at hf
 rcases hf with rfl|rfl|rfl|rfl|rfl|rfl|rfl <;> rfl
theorem RdT.frmW {S:Nat→Prop} {w w':World} {e:TypeId} {size n:Nat} {v:Value} {xs:List Value} (h:RdT w e size v n xs) (hf:Frm S w w') (hr:∀k cur z,w.heap[k]? = some (.cells cur e z)→¬S k):RdT w' e size v n xs:=by
 obtain⟨⟨hl,A,c,hv,hc,hm,hx⟩,h2⟩:=h
 refine⟨⟨hl,A,c,hv,hc,hm,fun hn => ?_⟩,?_⟩
 ·obtain⟨g,o,hA,hgl,hcell⟩:=hx hn
  rcases h2 with h0|⟨g',o',c',cur,z,hv',hh⟩
  ·omega
  ·have hg':g=g':=by
    rw[hv,hA] at hv'
    injection hv' with ha
    injection ha with ha
    injection ha
   subst hg'
   have hs:=hf.block g hgl (hr _ _ _ hh)
   exact⟨g,o,hA,Nat.lt_of_lt_of_le hgl hf.size,fun j u hu=>(World.cell?_of_block (w:=w) (a:=⟨g,o+j,none⟩) hs).trans (hcell j u hu)⟩
 ·rcases h2 with h0|⟨g',o',c',cur,z,hv',hh⟩
  ·exact .inl h0
  ·exact .inr ⟨g',o',c',cur,z,hv',(hf.block g' (heap_lt hh) (hr _ _ _ hh)).trans hh⟩
theorem own_frmW {S:Nat→Prop} {base:Nat} {w w':World} {e:TypeId} {size n:Nat} {v:Value} {xs:List Value} (h:w.ownsRow base e size v n xs) (hf:Frm S w w') (hr:∀k cur z,w.heap[k]? = some (.cells cur e z)→¬S k):w'.ownsRow base e size v n xs:=by
 obtain⟨hl,h2|⟨g,cap,cur,hv,hg,hh,r⟩⟩:=h
 ·exact⟨hl,.inl h2⟩
 ·exact⟨hl,.inr ⟨g,cap,cur,hv,hg,(hf.block g (heap_lt hh) (hr _ _ _ hh)).trans hh,r⟩⟩
structure FwS (w0:World) (q:Nat) (db out:Array Value) (w:World):Prop where
 x:Bx q db 30 w
 z:Bx (q+1) dbZ9 30 w
 y:Bx (q+2) out 30 w
 be:Below w0.heap.size w0 w
 lo:w0.heap.size=q
theorem FwS.below {w0 w w':World} {q:Nat} {db out:Array Value} (h:FwS w0 q db out w) (hb:Below w.heap.size w w'):FwS w0 q db out w' :=
 ⟨h.x.via hb,h.z.via hb,h.y.via hb,Below.then_ h.be hb,h.lo⟩
theorem frm_grow {w w3:World} {b j:Nat} {v v':Value} (hg:w.grownBy w3 v.ownBlock):Frm (fun k=>k=b∨v.ownBlock=some k) w (w3.setCell ⟨b,j,none⟩ v') :=
 ⟨hg.os,hg.tape,hg.output,by simpa using hg.size,fun k hk hn=>(heap_setCell_other w3 ⟨b,j,none⟩ k v' (fun e=>hn (.inl (by simpa using e)))).trans (hg.block k hk (fun e=>hn (.inr e.symm)))⟩
theorem not_grow {w:World} {b:Nat} {cs:Array Value} {T e e2:TypeId} {base size n:Nat} {v:Value} {xs:List Value} (hb:Bx b cs T w) (hown:w.ownsRow base e2 size v n xs) (h1:T≠e) (h2:e2≠e) (k:Nat) (cur:Array Value) (z:Nat × Nat) (hh:w.heap[k]? = some (.cells cur e z)):¬(k=b∨v.ownBlock=some k):=by
 rintro(rfl|e3)
 ·unfold Bx at hb
  rw[hb] at hh
  injection hh with hh
  injection hh with _ h6 _
  exact h1 h6
 ·obtain⟨cur',e',z',hh',he⟩:=own_block hown k e3
  rw[hh] at hh'
  injection hh' with hh'
  injection hh' with _ h6 _
  exact h2 (he.symm.trans h6.symm)
theorem FwS.push {w0 w w3:World} {q j:Nat} {db out:Array Value} {e:TypeId} {size n:Nat} {v v':Value} {xs:List Value} (h:FwS w0 q db out w) (hown:w.ownsRow w0.heap.size e size v n xs) (he:e≠30) (hg:w.grownBy w3 v.ownBlock):FwS w0 q db (out.setIfInBounds j v') (w3.setCell ⟨q+2,j,none⟩ v'):=by
 have hno:∀k cs,Bx k cs 30 w→v.ownBlock≠some k:=fun k cs hb e3=>by
  obtain⟨cur',e',z',hh',he'⟩:=own_block hown k e3
  unfold Bx at hb
  rw[hb] at hh'
  injection hh' with hh'
  injection hh' with _ h6 _
  exact he (he'.symm.trans h6.symm)
 have hf:=frm_grow (b:=q+2) (j:=j) (v':=v') hg
 have hy3:Bx (q+2) out 30 w3:=(hg.block _ h.y.lt (fun e3=>hno _ _ h.y e3.symm)).trans h.y
 refine⟨(hf.block q h.x.lt (fun e3 => ?_)).trans h.x,(hf.block (q+1) h.z.lt (fun e3 => ?_)).trans h.z,hy3.set j v',h.be.trans (hf.below h.be.size (fun k hk => ?_)),h.lo⟩
 ·rcases e3 with e3|e3
  ·omega
  ·exact hno _ _ h.x e3
 ·rcases e3 with e3|e3
  ·omega
  ·exact hno _ _ h.z e3
 ·rcases hk with e3|e3
  ·have:=h.lo;omega
  ·exact(hown.lt k e3).1
theorem FwS.row_y {w0 w w3:World} {q:Nat} {db out:Array Value} {e:TypeId} {size n:Nat} {v:Value} {xs:List Value} (h:FwS w0 q db out w) (hown:w.ownsRow w0.heap.size e size v n xs) (he:e≠30) (hg:w.grownBy w3 v.ownBlock):Bx (q+2) out 30 w3:=by
 refine(hg.block _ h.y.lt (fun e3 => ?_)).trans h.y
 obtain⟨cur',e',z',hh',he'⟩:=own_block hown _ e3.symm
 have hb:=h.y
 unfold Bx at hb
 rw[hb] at hh'
 injection hh' with hh'
 injection hh' with _ h6 _
 exact he (he'.symm.trans h6.symm)
theorem infoAirwayF:(Tryz.prog.info? 48).map (fun i=>(i.zero,i.size,i.bytes))=some (some (.agg #[.string ⟨#[]⟩,.slice none 0 0]),2,40):=by kernel_rfl
theorem infoPointF:(Tryz.prog.info? 53).map (fun i=>(i.zero,i.size,i.bytes))=some (some (.agg #[.string ⟨#[]⟩,.int .i64 0,.int .i64 0,.int .u8 0]),4,40):=by kernel_rfl
theorem frm_setF (w:World) (b j:Nat) (u:Value):Frm (fun k=>k=b) w (w.setCell ⟨b,j,none⟩ u) :=
 ⟨rfl,rfl,rfl,by simp,fun k hk hn=>heap_setCell_other w ⟨b,j,none⟩ k u (fun e=>hn (by simpa using e))⟩
theorem ne_box {w:World} {b:Nat} {cs:Array Value} {T e:TypeId} (hb:Bx b cs T w) (h1:T≠e) (k:Nat) (cur:Array Value) (z:Nat × Nat) (hh:w.heap[k]? = some (.cells cur e z)):¬(k=b):=by
 rintro rfl
 unfold Bx at hb
 rw[hb] at hh
 injection hh with hh
 injection hh with _ h6 _
 exact h1 h6
theorem ptc_one (l:List Pt):∀u∈l.flatMap ptc,u.oneCell'=true:=by
 intro u hu
 obtain⟨f,_,hf⟩:=List.mem_flatMap.1 hu
 simp only[ptc,List.mem_cons,List.not_mem_nil,or_false] at hf
 rcases hf with rfl|rfl|rfl|rfl <;> rfl
def AwO (w:World) (x:Value × AwD):Prop:=x.2.nm.length≤maxLen∧RdT w 53 4 x.1 x.2.ps.length (ptcells x.2.ps)∧∀p∈x.2.ps,p.ref.length≤maxLen∧p.dir<256
structure FwA (w0:World) (q:Nat) (D:DbD) (db:Array Value) (fv:Value) (m k:Nat) (L:List (Value × AwD)) (av:Value) (w:World):Prop where
 s:FwS w0 q db (dbA D.hd fv av (.slice none 0 0)) w
 fx:RdT w 38 7 fv m ((D.fx.take m).flatMap fxc)
 own:w.ownsRow w0.heap.size 48 2 av L.length (L.flatMap awc)
 eq:L.map (·.2)=(D.aw.take k).map fewA
 el:∀x∈L,AwO w x
theorem FwA.below {w0 w w':World} {q:Nat} {D:DbD} {db:Array Value} {fv:Value} {m k:Nat} {L:List (Value × AwD)} {av:Value} (h:FwA w0 q D db fv m k L av w) (hb:Below w.heap.size w w'):FwA w0 q D db fv m k L av w' :=
 ⟨h.s.below hb,h.fx.below hb,own_below h.own hb,h.eq,fun x hx=>⟨(h.el x hx).1,(h.el x hx).2.1.below hb,(h.el x hx).2.2⟩⟩
theorem infoProcF:(Tryz.prog.info? 57).map (fun i=>(i.zero,i.size,i.bytes))=some (some (.agg #[.string ⟨#[]⟩,.string ⟨#[]⟩,.int .u8 0,.slice none 0 0]),4,64):=by kernel_rfl
def PaO (w:World) (x:Value × Pa):Prop:=x.2.nm.length≤maxLen∧x.2.kd<256∧RdT w 65 13 x.1 x.2.lg.length (x.2.lg.flatMap lgc)∧∀l∈x.2.lg,LgOk l
def PrO (w:World) (x:Value × Prc):Prop:=x.2.ap.length≤maxLen∧x.2.nm.length≤maxLen∧x.2.kd<256∧∃LP:List (Value × Pa),x.2.pa=LP.map (·.2)∧RdT w 62 3 x.1 LP.length (LP.flatMap pac)∧∀y∈LP,PaO w y
structure FwP (w0:World) (q:Nat) (D:DbD) (db:Array Value) (fv av:Value) (m:Nat) (LA:List (Value × AwD)) (k:Nat) (L:List (Value × Prc)) (pv:Value) (w:World):Prop where
 s:FwS w0 q db (dbA D.hd fv av pv) w
 fx:RdT w 38 7 fv m ((D.fx.take m).flatMap fxc)
 aw:RdT w 48 2 av LA.length (LA.flatMap awc)
 el:∀x∈LA,AwO w x
 own:w.ownsRow w0.heap.size 57 4 pv L.length (L.flatMap prc)
 eq:L.map (·.2)=(D.pr.take k).map fewR
 pe:∀x∈L,PrO w x
structure FwQ (w1:World) (q7:Nat) (bx:Array Value) (pa:List Pa) (i:Nat) (L:List (Value × Pa)) (sv:Value) (w:World):Prop where
 x:Bx q7 bx 57 w
 own:w.ownsRow w1.heap.size 62 3 sv L.length (L.flatMap pac)
 eq:L.map (·.2)=(pa.take i).map fewP
 pe:∀y∈L,PaO w y
 be:Below w1.heap.size w1 w
 lo:w1.heap.size=q7
theorem PaO.below {w w':World} {x:Value × Pa} (h:PaO w x) (hb:Below w.heap.size w w'):PaO w' x:=⟨h.1,h.2.1,h.2.2.1.below hb,h.2.2.2⟩
theorem PrO.below {w w':World} {x:Value × Prc} (h:PrO w x) (hb:Below w.heap.size w w'):PrO w' x:=by
 obtain⟨h1,h2,h3,LP,h4,h5,h6⟩:=h
 exact⟨h1,h2,h3,LP,h4,h5.below hb,fun y hy=>(h6 y hy).below hb⟩
theorem FwP.below {w0 w w':World} {q:Nat} {D:DbD} {db:Array Value} {fv av:Value} {m:Nat} {LA:List (Value × AwD)} {k:Nat} {L:List (Value × Prc)} {pv:Value} (h:FwP w0 q D db fv av m LA k L pv w) (hb:Below w.heap.size w w'):FwP w0 q D db fv av m LA k L pv w' :=
 ⟨h.s.below hb,h.fx.below hb,h.aw.below hb,fun x hx=>⟨(h.el x hx).1,(h.el x hx).2.1.below hb,(h.el x hx).2.2⟩,own_below h.own hb,h.eq,fun x hx=>(h.pe x hx).below hb⟩
theorem PaO.frmW {S:Nat→Prop} {w w':World} {x:Value × Pa} (h:PaO w x) (hf:Frm S w w') (h1:∀k cur z,w.heap[k]? = some (.cells cur 65 z)→¬S k):PaO w' x:=⟨h.1,h.2.1,h.2.2.1.frmW hf h1,h.2.2.2⟩
theorem PrO.frmW {S:Nat→Prop} {w w':World} {x:Value × Prc} (h:PrO w x) (hf:Frm S w w') (h1:∀k cur z,w.heap[k]? = some (.cells cur 65 z)→¬S k) (h2:∀k cur z,w.heap[k]? = some (.cells cur 62 z)→¬S k):PrO w' x:=by
 obtain⟨a1,a2,a3,LP,a4,a5,a6⟩:=h
 exact⟨a1,a2,a3,LP,a4,a5.frmW hf h2,fun y hy=>(a6 y hy).frmW hf h1⟩
theorem infoLegF:(Tryz.prog.info? 65).map (fun i=>(i.zero,i.size,i.bytes))=some (some (.agg #[.int .u8 0,.string ⟨#[]⟩,.string ⟨#[]⟩,.int .u8 0,.bool false,.int .i64 0,.int .i64 0,.int .i64 0,.int .i64 0,.int .i64 0,.int .i64 0,.int .i64 0,.int .i64 0]),13,112):=by kernel_rfl
theorem infoPartF:(Tryz.prog.info? 62).map (fun i=>(i.zero,i.size,i.bytes))=some (some (.agg #[.int .u8 0,.string ⟨#[]⟩,.slice none 0 0]),3,48):=by kernel_rfl
theorem frm_row {w w3:World} {v:Value} (hg:w.grownBy w3 v.ownBlock):Frm (fun k=>v.ownBlock=some k) w w3:=⟨hg.os,hg.tape,hg.output,hg.size,fun k hk hn=>hg.block k hk (fun e=>hn e.symm)⟩
theorem ne_row {w:World} {e e2:TypeId} {base size n:Nat} {v:Value} {xs:List Value} (hown:w.ownsRow base e2 size v n xs) (h2:e2≠e) (k:Nat) (cur:Array Value) (z:Nat × Nat) (hh:w.heap[k]? = some (.cells cur e z)):¬(v.ownBlock=some k):=fun e3=>by
 obtain⟨cur',e',z',hh',he⟩:=own_block hown k e3
 rw[hh] at hh'
 injection hh' with hh'
 injection hh' with _ h6 _
 exact h2 (he.symm.trans h6.symm)
theorem FwQ.below {w1 w w':World} {q7:Nat} {bx:Array Value} {pa:List Pa} {i:Nat} {L:List (Value × Pa)} {sv:Value} (h:FwQ w1 q7 bx pa i L sv w) (hb:Below w.heap.size w w'):FwQ w1 q7 bx pa i L sv w' :=
 ⟨h.x.via hb,own_below h.own hb,h.eq,fun y hy=>(h.pe y hy).below hb,Below.then_ h.be hb,h.lo⟩
theorem lgcs_one (l:List Lg):∀u∈l.flatMap lgc,u.oneCell'=true:=by
 intro u hu
 obtain⟨f,_,hf⟩:=List.mem_flatMap.1 hu
 exact lgc_one f u hf
set_option maxRecDepth 100000 in
set_option maxHeartbeats 80000000 in
theorem fewDb_any (D:DbD) (f a p:Value) (w:World) (h:DbV w f a p D) :
  Calls Tryz.prog 9 #[.agg (dbC D.hd f a p).toArray] w fun e w'=>(∃f' a' p',e=.returned (.agg (dbC D.hd f' a' p').toArray)∧DbV w' f' a' p' (fewD D))∧Below w.heap.size w w':=by
 have HH:=Lib.hid h
 obtain⟨Af,cf,rfl,hcf,hmf⟩:=h.fx.1.form
 obtain⟨Aa,ca,rfl,hca,hma⟩:=h.aw.form
 obtain⟨Ap,cp,rfl,hcp,hmp⟩:=h.pr.form
 unfold maxLen at hmf hma hmp
 obtain⟨n,hn⟩:∃n,D.fx.length=n:=⟨_,rfl⟩
 obtain⟨na,hna⟩:∃n,D.aw.length=n:=⟨_,rfl⟩
 obtain⟨np,hnp⟩:∃n,D.pr.length=n:=⟨_,rfl⟩
 rw[hn,hna,hnp] at HH
 rw[hn] at hcf
 rw[hna] at hca
 rw[hnp] at hcp
 rw[hn,hna,hnp]
 have HNF:=Lib.hid hn
 have HNA:=Lib.hid hna
 have HNP:=Lib.hid hnp
 rw[dbA_eq]
 unfold dbA
 obtain⟨w0,hw0⟩:∃W,(w.alloc (.cells (dbA D.hd (.slice Af n cf) (.slice Aa na ca) (.slice Ap np cp)) 30)).alloc (.cells dbZ9 30)=W:=⟨_,rfl⟩
 obtain⟨q,hq⟩:∃q,w.heap.size=q:=⟨_,rfl⟩
 have B0:Hid (Below w.heap.size w w0):=by rw[←hw0];exact((Below.refl _ _).alloc (Nat.le_refl _) _).alloc (by simp) _
 have X0:Hid (Bx q (dbA D.hd (.slice Af n cf) (.slice Aa na ca) (.slice Ap np cp)) 30 w0):=by rw[←hw0,←hq];exact(Bx.last w _ _).grow _
 have Z0:Hid (Bx (q+1) dbZ9 30 w0):=by rw[←hw0,←hq];exact Bx.last2 w _ _ _
 have hs0:w0.heap.size=q+2:=by rw[←hw0,←hq];simp
 unfold dbA dbZ9 at hw0
 have HW0:=Lib.hid hw0
 have HQ:=Lib.hid hq
 have HQQ:=Lib.hid hq
 clear h hw0 hn hna hnp hq
 have x0:=X0.out.cell 0 (u:=.string (sb D.hd.nm)) rfl
 have x1:=X0.out.cell 1 (u:=.int .i64 D.hd.cy) rfl
 have x2:=X0.out.cell 2 (u:=.int .i64 D.hd.fr) rfl
 have x3:=X0.out.cell 3 (u:=.int .i64 D.hd.tu) rfl
 have x4:=X0.out.cell 4 (u:=.int .i64 D.hd.la) rfl
 have x5:=X0.out.cell 5 (u:=.int .i64 D.hd.lo) rfl
 have xl:=X0.out.lt
 go_enter Tryz.func9,Tryz.ntmps9
 go_upto_region 1 with fail
 rw[HW0.out,HQ.out]
 clear HW0 HQ
 obtain⟨w1,hw1⟩:∃W,w0.alloc (.cells (dbA D.hd (.slice none 0 0) (.slice none 0 0) (.slice none 0 0)) 30)=W:=⟨_,rfl⟩
 have BB:Hid (Below w0.heap.size w0 w1):=by rw[←hw1];exact(Below.refl _ _).alloc (Nat.le_refl _) _
 have X1:=Lib.hid (X0.out.via BB.out)
 have Z1:=Lib.hid (Z0.out.via BB.out)
 have Y1:Hid (Bx (q+2) (dbA D.hd (.slice none 0 0) (.slice none 0 0) (.slice none 0 0)) 30 w1):=by rw[←hw1,←hs0];exact Bx.last w0 _ _
 unfold dbA at hw1
 have HW1:=Lib.hid hw1
 have HS0:=Lib.hid hs0
 clear hw1 hs0
 go_upto_region 2 with fail
 rw[HW1.out,HS0.out]
 clear HW1 HS0 x0 x1 x2 x3 x4 x5 xl
 obtain⟨m,hm⟩:∃m,min n 24=m:=⟨_,rfl⟩
 have hmi:min (n:Int) 24=(m:Int):=by rw[←hm];omega
 have hmn:(m:Int)≤(cf:Int):=by omega
 have hm0:(0:Int)≤(m:Int):=by omega
 have z6:=fun pb:BelBy w1=>(X1.out.via pb.h).cell 6 (u:=.slice Af n cf) rfl
 have v6:=fun pb:BelBy w1=>(Y1.out.via pb.h).cell 6 (u:=.slice none 0 0) rfl
 refine wp_region_bel_tail 9 (by kernel_rfl) (by kernel_rfl) ?_
 simp only[List.take_succ_cons,List.take_zero,List.drop_succ_cons,List.drop_zero]
 repeat(quiet_step (fail))
 refine wpQuiet_nil ?_
 rintro wz ⟨pb,rfl⟩
 obtain⟨wa,hba⟩:=pb
 show wpList _ _ _ _ _ wa
 obtain⟨i0,hi,hz0,hz1,hz2⟩:=info_parts infoFix
 have X2:=Lib.hid (X1.out.via hba)
 have Z2:=Lib.hid (Z1.out.via hba)
 have Y2:=Lib.hid (Y1.out.via hba)
 have B2:=Lib.hid (Below.then_ (Below.then_ B0.out BB.out) hba)
 have hmn2:m≤n:=by omega
 have HSRC:=Lib.hid (Rd.src HNF.out HH.out.fx.1 B2.out m hmn2)
 have HLEN:Hid (((D.fx.take m).flatMap fxc).length=m*7):=by unfold Hid;rw[fxc_len7,List.length_take,HNF.out];congr 1;omega
 have HONE:=Lib.hid (fxc_one (D.fx.take m))
 have hm24:m≤24:=by omega
 have HM:=Lib.hid hm
 have S2:Hid (FwS w q (dbA D.hd (.slice Af n cf) (.slice Aa na ca) (.slice Ap np cp)) (dbA D.hd (.slice none 0 0) (.slice none 0 0) (.slice none 0 0)) wa):=⟨X2.out,Z2.out,Y2.out,B2.out,HQQ.out⟩
 have k6:=Y2.out.cell 6 (u:=.slice none 0 0) rfl
 clear z6 v6 hba X1 Z1 Y1 BB B0 X0 Z0 hm X2 Z2 Y2
 go_wp2_with (at_builtin;(refine wpList_append_any rfl _ _ 26 rfl w.heap.size 38 i0 (.agg #[.string ⟨#[]⟩,.string ⟨#[]⟩,.int .u8 0,.int .i64 0,.int .i64 0,.int .i64 0,.int .i64 0]) 7 72 Tryz.underlying26 hi hz0 hz1 hz2 rfl (by decide) (.slice none 0 0) 0 [] rfl (World.ownsRow_nil _ _ _ _) Af m cf ((D.fx.take m).flatMap fxc) rfl HLEN.out HSRC.out HONE.out ?c3 ?c4 B2.out.size ?_))
 case c3=>unfold maxLen;omega
 case c4=>omega
 intro v3 w3 hown3 hg3 ho3
 have S3:=Lib.hid (S2.out.push (j:=6) (v':=v3) (World.ownsRow_nil wa w.heap.size 38 7) (by decide) hg3)
 have OW3:=Lib.hid hown3
 have k6:=S2.out.y.lt
 obtain⟨Av3,nv3,cv3,rfl⟩:=own_form hown3
 have k36:w3.cell? ⟨q+2,6,none⟩=some (.slice none 0 0):=(World.cell?_of_block (w:=wa) (a:=⟨q+2,6,none⟩) (hg3.block _ k6 (by simp[Value.ownBlock]))).trans (S2.out.y.cell 6 rfl)
 have kf6:w3.frozen? ⟨q+2,6,none⟩=false:=by
  have h1:Bx (q+2) (dbA D.hd (.slice none 0 0) (.slice none 0 0) (.slice none 0 0)) 30 w3:=(hg3.block _ k6 (by simp[Value.ownBlock])).trans S2.out.y
  exact h1.free 6
 have kl6:q+2<w3.heap.size:=Nat.lt_of_lt_of_le k6 hg3.size
 have HY3:Hid (Bx (q+2) (dbA D.hd (.slice none 0 0) (.slice none 0 0) (.slice none 0 0)) 30 w3):=(hg3.block _ k6 (by simp[Value.ownBlock])).trans S2.out.y
 clear hown3 hg3 ho3
 go_upto_region 3 with fail
 obtain⟨w4,hw4⟩:∃W,w3.setCell ⟨q+2,6,none⟩ (.slice Av3 nv3 cv3)=W:=⟨_,rfl⟩
 have A4:Hid (FwA w q D (dbA D.hd (.slice Af n cf) (.slice Aa na ca) (.slice Ap np cp)) (.slice Av3 nv3 cv3) m 0 [] (.slice none 0 0) w4):=by
  rw[←hw4]
  exact⟨S3.out,(RdT.of_own OW3.out).frmW (frm_setF _ _ _ _) (ne_box HY3.out (by decide)),World.ownsRow_nil _ _ _ _,rfl,fun x hx=>by cases hx⟩
 rw[hw4]
 clear hw4 S3 OW3 k36 kf6 kl6 HY3 S2 k6 HSRC HLEN HONE hi hz0 hz1 hz2 hmi hmn hm0 hmn2
 obtain⟨fv,hfv⟩:∃v,Value.slice Av3 nv3 cv3=v:=⟨_,rfl⟩
 rw[hfv] at A4
 clear hfv
 go_wp2_with fail
 go_loopw [4] (fun iv wr=>∃(k:Nat) (L:List (Value × AwD)) (av:Value),k≤na∧k≤6∧iv=.int .i64 (k:Int)∧Hid (FwA w q D (dbA D.hd (.slice Af n cf) (.slice Aa na ca) (.slice Ap np cp)) fv m k L av wr)) (fun iv _=>6-(intOf iv).toNat)
 case atStart=>exact⟨0,[],_,Nat.zero_le _,Nat.zero_le _,rfl,A4.out⟩
 case round =>
 clear A4
 obtain⟨k,L,av,hk,hk6,rfl,hs⟩:=hrel
 have x7:=hs.out.s.x.cell 7 (u:=.slice Aa na ca) rfl
 have xl:=hs.out.s.x.lt
 obtain⟨bc,hbc⟩:∃b,decide (k<na∧k<6)=b:=⟨_,rfl⟩
 go_upto_region 4 with fail
 go_cut [33] (fun v wx=>v=.bool bc∧Hid (wx=wr))
 case first =>
  by_cases hlt:k<na
  ·have hki:(k:Int)<(na:Int):=by omega
   by_cases hl6:k<6
   ·have hk6i:(k:Int)<6:=by omega
    obtain rfl:true=bc:=by rw[←hbc];exact(decide_eq_true ⟨hlt,hl6⟩).symm
    clear hbc
    go_wp2
    go_meet
    exact⟨rfl,rfl⟩
   ·have hk6i:¬(k:Int)<6:=by omega
    obtain rfl:false=bc:=by rw[←hbc];exact(decide_eq_false (fun h=>hl6 h.2)).symm
    clear hbc
    go_wp2
    go_meet
    exact⟨rfl,rfl⟩
  ·have hki:¬(k:Int)<(na:Int):=by omega
   obtain rfl:false=bc:=by rw[←hbc];exact(decide_eq_false (fun h=>hlt h.1)).symm
   clear hbc
   go_wp2
   go_meet
   exact⟨rfl,rfl⟩
 case rest =>
 obtain⟨rfl,hwx⟩:=hcut
 have hw:=hwx.out.symm
 subst hw
 clear hwx
 cases bc with
 | true =>
   obtain⟨hlt,hl6⟩:=of_decide_eq_true hbc
   have hki:(k:Int)<(na:Int):=by omega
   clear hbc
   have hkl:k<D.aw.length:=by rw[HNA.out];exact hlt
   have HR2:=Lib.hid HH.out.aw
   obtain⟨g,o,c',pv,hA,hgl,hat,hnl,hps⟩:=AwsD.at_ (by have:=HR2.out;rw[←HNA.out] at this;exact this:AwsD w (.slice Aa D.aw.length ca) D.aw) hkl
   rw[HNA.out] at hA
   simp only[Value.slice.injEq,true_and] at hA
   obtain⟨rfl,rfl⟩:=hA
   have HTK:Hid (D.aw.take (k+1)=D.aw.take k++[D.aw[k]]):=List.take_succ_eq_append_getElem hkl
   obtain⟨x,hx⟩:∃x,D.aw[k]=x:=⟨_,rfl⟩
   rw[hx] at hat hps hnl HTK
   obtain⟨nm,ps⟩:=x
   simp only at hps hnl
   obtain⟨Ax,cx,rfl,hcx,hmx⟩:=hps.form
   unfold maxLen at hmx
   obtain⟨pm,hpm⟩:∃m,ps.length=m:=⟨_,rfl⟩
   have HPS:=Lib.hid hps
   have HNL:=Lib.hid hnl
   obtain⟨y0,y1⟩:=hat.below hgl hs.out.s.be
   simp only at y0
   rw[hpm] at hcx y1 HPS
   have HPM:=Lib.hid hpm
   have hgw:g<wr.heap.size:=Nat.lt_of_lt_of_le hgl hs.out.s.be.size
   obtain⟨wA,hwA⟩:∃W,wr.alloc (.cells #[.string (sb nm),.slice Ax pm cx] 48)=W:=⟨_,rfl⟩
   have BA:Hid (Below wr.heap.size wr wA):=by rw[←hwA];exact(Below.refl _ _).alloc (Nat.le_refl _) _
   obtain⟨q5,hq5⟩:∃q,wr.heap.size=q:=⟨_,rfl⟩
   have XA:Hid (Bx q5 #[.string (sb nm),.slice Ax pm cx] 48 wA):=by rw[←hwA,←hq5];exact Bx.last wr _ _
   have SA:=Lib.hid (hs.out.below BA.out)
   have HWA:=Lib.hid hwA
   have HQ5:=Lib.hid hq5
   have SW:=Lib.hid hs.out
   have hq5l:q5<wA.heap.size:=XA.out.lt
   clear hwA hq5 hs hat hps hx hpm HR2 hnl
   go_upto_region 7 with fail
   rw[HWA.out,HQ5.out]
   clear HWA y0 y1 x7 xl
   obtain⟨i1,hi,hz0,hz1,hz2⟩:=info_parts infoPointF
   obtain⟨m8,hm8⟩:∃m,min pm 8=m:=⟨_,rfl⟩
   have hmi:min (pm:Int) 8=(m8:Int):=by rw[←hm8];omega
   have hmn:(m8:Int)≤(cx:Int):=by omega
   have hm0:(0:Int)≤(m8:Int):=by omega
   have hm8p:m8≤pm:=by omega
   have hm88:m8≤8:=by omega
   have HT8:Hid (ps.take 8=ps.take m8):=by
    unfold Hid
    rcases Nat.le_total pm 8 with h8|h8
    ·rw[List.take_of_length_le (by rw[HPM.out];exact h8),List.take_of_length_le (by rw[HPM.out];omega)]
    ·rw[show m8=8 by omega]
   have BBW:=Lib.hid (Below.then_ SW.out.s.be BA.out)
   have BBX:Hid (Below w.heap.size w (wA.alloc (.cells #[] 53))):=Below.then_ BBW.out ((Below.refl _ _).alloc (Nat.le_refl _) _)
   have HSRC:=Lib.hid (Rd.src (c:=ptc) HPM.out HPS.out.1 BBX.out m8 hm8p)
   have HLEN:Hid (((ps.take m8).flatMap ptc).length=m8*4):=by
    unfold Hid
    have h4:=ptcells_len (ps.take m8)
    unfold ptcells at h4
    rw[h4,List.length_take,HPM.out,Nat.min_eq_left hm8p]
   have HONE:=Lib.hid (ptc_one (ps.take m8))
   have y0:=fun o:Obj=>(XA.out.grow o).cell 0 (u:=.string (sb nm)) rfl
   have y1:=(XA.out.grow (.cells #[] 53)).cell 1 (u:=.slice Ax pm cx) rfl
   have yl:=(XA.out.grow (.cells #[] 53)).lt
   have HOWN0:=Lib.hid (World.ownsRow_lit (base:=w.heap.size) (e:=53) (size:=4) wA #[] 0 BBW.out.size (by unfold maxLen;omega) rfl)
   clear hm8
   go_wp2_with (at_builtin;(refine wpList_append_any rfl _ _ 46 rfl w.heap.size 53 i1 (.agg #[.string ⟨#[]⟩,.int .i64 0,.int .i64 0,.int .u8 0]) 4 40 Tryz.underlying46 hi hz0 hz1 hz2 rfl (by decide) (.slice (some ⟨wA.heap.size,0,none⟩) 0 0) 0 [] rfl HOWN0.out Ax m8 cx ((ps.take m8).flatMap ptc) rfl HLEN.out HSRC.out HONE.out ?d3 ?d4 BBX.out.size ?_))
   case d3=>unfold maxLen;omega
   case d4=>omega
   intro v5 w5 hown5 hg5 ho5
   have hown5':w5.ownsRow w.heap.size 53 4 v5 m8 ((ps.take m8).flatMap ptc):=by simpa using hown5
   obtain⟨A5,n5,c5,rfl⟩:=own_form hown5'
   have hF5:Frm (fun k=>k=wA.heap.size) (wA.alloc (.cells #[] 53)) w5:=⟨hg5.os,hg5.tape,hg5.output,hg5.size,fun k hk hn=>hg5.block k hk (fun e3=>hn (by simpa [Value.ownBlock] using e3))⟩
   have hB5:Below wA.heap.size wA w5:=((Below.refl _ _).alloc (Nat.le_refl _) _).trans (hF5.below (by simp) (fun k hk=>by rw[hk];exact Nat.le_refl _))
   have X5:=Lib.hid (XA.out.via hB5)
   have f1:=X5.out.free 1
   have z1:=X5.out.cell 1 (u:=.slice Ax pm cx) rfl
   have zl:=X5.out.lt
   have hB5w:Below wr.heap.size wr w5:=Below.then_ BA.out hB5
   have BW5:=Lib.hid hB5w
   have OW5:=Lib.hid hown5'
   clear hown5 hown5' hg5 ho5 hF5 hB5 hB5w y0 y1 yl HOWN0 HSRC HLEN HONE hi hz0 hz1 hz2 hmi hmn hm0
   go_upto_region 8 with fail
   obtain⟨w6,hw6⟩:∃W,w5.setCell ⟨q5,1,none⟩ (.slice A5 n5 c5)=W:=⟨_,rfl⟩
   have X6:Hid (Bx q5 #[.string (sb nm),.slice A5 n5 c5] 48 w6):=by rw[←hw6];exact X5.out.set 1 _
   have S6:=Lib.hid (SW.out.below (by rw[←hw6];exact BW5.out.setCell (by show wr.heap.size≤q5;rw[HQ5.out];exact Nat.le_refl _) _:Below wr.heap.size wr w6))
   have P6:Hid (RdT w6 53 4 (.slice A5 n5 c5) m8 ((ps.take m8).flatMap ptc)):=by
    rw[←hw6];exact(RdT.of_own OW5.out).frmW (frm_setF _ _ _ _) (ne_box X5.out (by decide))
   rw[hw6]
   clear hw6 f1 z1 zl X5 BW5 OW5 SW XA SA BA BBW BBX
   obtain⟨ia,ha,ha0,ha1,ha2⟩:=info_parts infoAirwayF
   obtain⟨Av,nv,cv,rfl⟩:=own_form S6.out.own
   have y7:=fun o:Obj=>(S6.out.s.y.grow o).cell 7 (u:=.slice Av nv cv) rfl
   have y7':=S6.out.s.y.cell 7 (u:=.slice Av nv cv) rfl
   have yl:=S6.out.s.y.lt
   have z0:=X6.out.cell 0 (u:=.string (sb nm)) rfl
   have z1:=X6.out.cell 1 (u:=.slice A5 n5 c5) rfl
   have zl:=X6.out.lt
   have S7:=Lib.hid (S6.out.below ((Below.refl _ _).alloc (Nat.le_refl _) (.cells #[.string (sb nm),.slice A5 n5 c5] 48)))
   have hLL:L.length≤6:=by
    have h1:=congrArg List.length S6.out.eq
    rw[List.length_map,List.length_map,List.length_take] at h1;omega
   have HNEW:Hid (∀j u,([.string (sb nm),.slice A5 n5 c5]:List Value)[j]? = some u→(w6.alloc (.cells #[.string (sb nm),.slice A5 n5 c5] 48)).cell? ((⟨w6.heap.size,0,none⟩:Addr).add j)=some u):=World.news_of_block (cs := #[.string (sb nm),.slice A5 n5 c5]) (Bx.last w6 _ _)
   go_wp2_with (at_builtin;(refine wpList_append_any rfl _ _ 27 rfl w.heap.size 48 ia (.agg #[.string ⟨#[]⟩,.slice none 0 0]) 2 40 Tryz.underlying27 ha ha0 ha1 ha2 rfl (by decide) (.slice Av nv cv) L.length (L.flatMap awc) rfl S7.out.own (some ⟨w6.heap.size,0,none⟩) 1 1 [.string (sb nm),.slice A5 n5 c5] rfl rfl (fun _=>⟨_,rfl,HNEW.out⟩) ?f2 ?f3 ?f4 S7.out.s.be.size ?_))
   case f2=>intro u hu;simp only[List.mem_cons,List.not_mem_nil,or_false] at hu;rcases hu with rfl|rfl <;> rfl
   case f3=>unfold maxLen;omega
   case f4=>omega
   intro v8 w8 hown8 hg8 ho8
   have hown8':w8.ownsRow w.heap.size 48 2 v8 (L++[(Value.slice A5 n5 c5,fewA ⟨nm,ps⟩)]).length ((L++[(Value.slice A5 n5 c5,fewA ⟨nm,ps⟩)]).flatMap awc):=by
    rw[List.length_append,List.flatMap_append];simpa [awc,fewA] using hown8
   obtain⟨A8,n8,c8,rfl⟩:=own_form hown8'
   have hFG:=frm_grow (b:=q+2) (j:=7) (v':=Value.slice A8 n8 c8) hg8
   have HY8:=Lib.hid (S7.out.s.row_y S7.out.own (by decide) hg8)
   have N8:Hid (FwA w q D (dbA D.hd (.slice Af n cf) (.slice (some ⟨g,o,none⟩) na ca) (.slice Ap np cp)) fv m (k+1) (L++[(Value.slice A5 n5 c5,fewA ⟨nm,ps⟩)]) (.slice A8 n8 c8) (w8.setCell ⟨q+2,7,none⟩ (.slice A8 n8 c8))):=by
    refine⟨S7.out.s.push (j:=7) S7.out.own (by decide) hg8,S7.out.fx.frmW hFG (not_grow S7.out.s.y S7.out.own (by decide) (by decide)),own_frmW hown8' (frm_setF _ _ _ _) (ne_box HY8.out (by decide)),?_,?_⟩
    ·rw[List.map_append,S7.out.eq,HTK.out,List.map_append];rfl
    ·intro x hx
     rcases List.mem_append.1 hx with hx|hx
     ·exact⟨(S7.out.el x hx).1,(S7.out.el x hx).2.1.frmW hFG (not_grow S7.out.s.y S7.out.own (by decide) (by decide)),(S7.out.el x hx).2.2⟩
     ·obtain rfl:=List.mem_singleton.1 hx
      refine⟨HNL.out,?_,fun p hp=>HPS.out.2 p (List.mem_of_mem_take hp)⟩
      show RdT _ 53 4 (.slice A5 n5 c5) (ps.take 8).length (ptcells (ps.take 8))
      rw[HT8.out,List.length_take,HPM.out,Nat.min_eq_left hm8p]
      exact(P6.out.alloc _).frmW hFG (not_grow S7.out.s.y S7.out.own (by decide) (by decide))
   have k7:=HY8.out.cell 7 (u:=.slice Av nv cv) rfl
   have f7:=HY8.out.free 7
   have l7:=HY8.out.lt
   clear hown8 hown8' hg8 ho8 hFG y7 y7' yl z0 z1 zl S6 S7 X6 P6 HNEW ha ha0 ha1 ha2
   go_wp2_with fail
   go_roundw
   case rel=>exact⟨k+1,_,_,hlt,hl6,by go_num,N8⟩
   case measure=>simp[intOf];omega
 | false =>
  have hno:=of_decide_eq_false hbc
  have HEND:Hid (D.aw.take k=D.aw.take 6):=by
   unfold Hid
   rcases Nat.lt_or_ge k na with h1|h1
   ·rw[show k=6 by omega]
   ·rw[List.take_of_length_le (by rw[HNA.out];omega),List.take_of_length_le (by rw[HNA.out];omega)]
  have SE:=Lib.hid hs.out
  have P0:Hid (FwP w q D (dbA D.hd (.slice Af n cf) (.slice Aa na ca) (.slice Ap np cp)) fv av m L 0 [] (.slice none 0 0) wr):=⟨SE.out.s,SE.out.fx,RdT.of_own SE.out.own,SE.out.el,World.ownsRow_nil _ _ _ _,rfl,fun x hx=>by cases hx⟩
  have HEQ:=Lib.hid SE.out.eq
  rw[HEND.out] at HEQ
  clear hbc hno hs x7 xl hk hk6 SE HEND
  go_wp2_with fail
  go_loopw [6] (fun iv wx=>∃(k:Nat) (LP:List (Value × Prc)) (pv:Value),k≤np∧k≤4∧iv=.int .i64 (k:Int)∧Hid (FwP w q D (dbA D.hd (.slice Af n cf) (.slice Aa na ca) (.slice Ap np cp)) fv av m L k LP pv wx)) (fun iv _=>4-(intOf iv).toNat)
  case atStart=>exact⟨0,[],_,Nat.zero_le _,Nat.zero_le _,rfl,P0.out⟩
  case round =>
  clear P0
  obtain⟨k,LP,pv,hk,hk4,rfl,hs⟩:=hrel
  have x8:=hs.out.s.x.cell 8 (u:=.slice Ap np cp) rfl
  have xl:=hs.out.s.x.lt
  obtain⟨bc,hbc⟩:∃b,decide (k<np∧k<4)=b:=⟨_,rfl⟩
  go_upto_region 10 with fail
  go_cut [65] (fun v wx=>v=.bool bc∧Hid (wx=wr))
  case first =>
   by_cases hlt:k<np
   ·have hki:(k:Int)<(np:Int):=by omega
    by_cases hl6:k<4
    ·have hk6i:(k:Int)<4:=by omega
     obtain rfl:true=bc:=by rw[←hbc];exact(decide_eq_true ⟨hlt,hl6⟩).symm
     clear hbc
     go_wp2
     go_meet
     exact⟨rfl,rfl⟩
    ·have hk6i:¬(k:Int)<4:=by omega
     obtain rfl:false=bc:=by rw[←hbc];exact(decide_eq_false (fun h=>hl6 h.2)).symm
     clear hbc
     go_wp2
     go_meet
     exact⟨rfl,rfl⟩
   ·have hki:¬(k:Int)<(np:Int):=by omega
    obtain rfl:false=bc:=by rw[←hbc];exact(decide_eq_false (fun h=>hlt h.1)).symm
    clear hbc
    go_wp2
    go_meet
    exact⟨rfl,rfl⟩
  case rest =>
  obtain⟨rfl,hwx⟩:=hcut
  have hw:=hwx.out.symm
  subst hw
  clear hwx
  cases bc with
  | true =>
   obtain⟨hlt,hl4⟩:=of_decide_eq_true hbc
   have hki:(k:Int)<(np:Int):=by omega
   clear hbc
   have hkl:k<D.pr.length:=by rw[HNP.out];exact hlt
   have HR2:=Lib.hid HH.out.pr
   obtain⟨g,o,c',pv0,hA,hgl,hat,hap,hnm,hkd,hpa⟩:=PrcsR.at_ (by have:=HR2.out;rw[←HNP.out] at this;exact this:PrcsR w (.slice Ap D.pr.length cp) D.pr) hkl
   rw[HNP.out] at hA
   simp only[Value.slice.injEq,true_and] at hA
   obtain⟨rfl,rfl⟩:=hA
   have HTK:Hid (D.pr.take (k+1)=D.pr.take k++[D.pr[k]]):=List.take_succ_eq_append_getElem hkl
   obtain⟨x,hx⟩:∃x,D.pr[k]=x:=⟨_,rfl⟩
   rw[hx] at hat hap hnm hkd hpa HTK
   obtain⟨ap,nm,kd,pa⟩:=x
   simp only at hap hnm hkd hpa
   obtain⟨Ax,cx,rfl,hcx,hmx⟩:=hpa.form
   unfold maxLen at hmx
   obtain⟨pm,hpm⟩:∃m,pa.length=m:=⟨_,rfl⟩
   have HPS:=Lib.hid hpa
   have HOKS:Hid (ap.length≤maxLen∧nm.length≤maxLen∧kd<256):=⟨hap,hnm,hkd⟩
   obtain⟨y0,y1,y2,y3⟩:=hat.below hgl hs.out.s.be
   simp only at y0 y1 y2
   rw[hpm] at hcx y3 HPS
   have HPM:=Lib.hid hpm
   have hgw:g<wr.heap.size:=Nat.lt_of_lt_of_le hgl hs.out.s.be.size
   obtain⟨wA,hwA⟩:∃W,wr.alloc (.cells #[.string (sb ap),.string (sb nm),.int .u8 (kd:Int),.slice Ax pm cx] 57)=W:=⟨_,rfl⟩
   have BA:Hid (Below wr.heap.size wr wA):=by rw[←hwA];exact(Below.refl _ _).alloc (Nat.le_refl _) _
   obtain⟨q7,hq7⟩:∃q,wr.heap.size=q:=⟨_,rfl⟩
   have QA:Hid (FwQ wr q7 #[.string (sb ap),.string (sb nm),.int .u8 (kd:Int),.slice Ax pm cx] pa 0 [] (.slice none 0 0) wA):=⟨by rw[←hwA,←hq7];exact Bx.last wr _ _,World.ownsRow_nil _ _ _ _,rfl,(fun y hy=>by cases hy),BA.out,hq7⟩
   have HWA:=Lib.hid hwA
   have HQ7:=Lib.hid hq7
   have SW:=Lib.hid hs.out
   clear hwA hq7 hs hat hpa hx hpm HR2 hap hnm hkd BA
   go_upto_region 13 with fail
   rw[HWA.out,HQ7.out]
   clear HWA y0 y1 y2 y3 x8 xl
   obtain⟨w1,hw1⟩:∃W,wr=W:=⟨_,rfl⟩
   rw[hw1] at QA SW hgw HQ7
   go_wp2_with fail
   go_loopw [8,9] (fun sv iv wx=>∃(i:Nat) (LQ:List (Value × Pa)),i≤pm∧i≤5∧iv=.int .i64 (i:Int)∧Hid (FwQ w1 q7 #[.string (sb ap),.string (sb nm),.int .u8 (kd:Int),.slice Ax pm cx] pa i LQ sv wx)) (fun _ iv _=>5-(intOf iv).toNat)
   case atStart=>exact⟨0,[],Nat.zero_le _,Nat.zero_le _,rfl,QA.out⟩
   case round =>
   clear QA hw1
   obtain⟨i,LQ,hi,hi5,rfl,hqs⟩:=hrel
   have z3:=hqs.out.x.cell 3 (u:=.slice Ax pm cx) rfl
   have zl:=hqs.out.x.lt
   obtain⟨bd,hbd⟩:∃b,decide (i<pm∧i<5)=b:=⟨_,rfl⟩
   go_upto_region 15 with fail
   go_cut [81] (fun v wx=>v=.bool bd∧Hid (wx=wr))
   case first =>
    by_cases hlm:i<pm
    ·have hii:(i:Int)<(pm:Int):=by omega
     by_cases hl5:i<5
     ·have hi5i:(i:Int)<5:=by omega
      obtain rfl:true=bd:=by rw[←hbd];exact(decide_eq_true ⟨hlm,hl5⟩).symm
      clear hbd
      go_wp2
      go_meet
      exact⟨rfl,rfl⟩
     ·have hi5i:¬(i:Int)<5:=by omega
      obtain rfl:false=bd:=by rw[←hbd];exact(decide_eq_false (fun h=>hl5 h.2)).symm
      clear hbd
      go_wp2
      go_meet
      exact⟨rfl,rfl⟩
    ·have hii:¬(i:Int)<(pm:Int):=by omega
     obtain rfl:false=bd:=by rw[←hbd];exact(decide_eq_false (fun h=>hlm h.1)).symm
     clear hbd
     go_wp2
     go_meet
     exact⟨rfl,rfl⟩
   case rest =>
   obtain⟨rfl,hwx⟩:=hcut
   have hw:=hwx.out.symm
   subst hw
   clear hwx
   cases bd with
   | true =>
    obtain⟨hlm,hl5⟩:=of_decide_eq_true hbd
    have hii:(i:Int)<(pm:Int):=by omega
    clear hbd
    have hil:i<pa.length:=by rw[HPM.out];exact hlm
    obtain⟨g2,o2,c2',lv,hA2,hgl2,hpt,hxn,hxk,hlg⟩:=PasR.at_ (by have:=HPS.out;rw[←HPM.out] at this;exact this:PasR w (.slice Ax pa.length cx) pa) hil
    rw[HPM.out] at hA2
    simp only[Value.slice.injEq,true_and] at hA2
    obtain⟨rfl,rfl⟩:=hA2
    have HTQ:Hid (pa.take (i+1)=pa.take i++[pa[i]]):=List.take_succ_eq_append_getElem hil
    obtain⟨x,hx⟩:∃x,pa[i]=x:=⟨_,rfl⟩
    rw[hx] at hpt hxn hxk hlg HTQ
    obtain⟨xk,xn,lg⟩:=x
    simp only at hxn hxk hlg
    obtain⟨Al,cl,rfl,hcl,hml⟩:=hlg.form
    unfold maxLen at hml
    obtain⟨lm,hlmE⟩:∃m,lg.length=m:=⟨_,rfl⟩
    have HLG:=Lib.hid hlg
    have BWR:=Lib.hid (Below.then_ SW.out.s.be hqs.out.be)
    obtain⟨u0,u1,u2⟩:=hpt.below hgl2 BWR.out
    simp only at u0 u1
    rw[hlmE] at hcl u2 HLG
    have HLM:=Lib.hid hlmE
    have HXO:Hid (xn.length≤maxLen∧xk<256):=⟨hxn,hxk⟩
    have hg2w:g2<wr.heap.size:=Nat.lt_of_lt_of_le hgl2 BWR.out.size
    obtain⟨wB,hwB⟩:∃W,wr.alloc (.cells #[.int .u8 (xk:Int),.string (sb xn),.slice Al lm cl] 62)=W:=⟨_,rfl⟩
    have BB:Hid (Below wr.heap.size wr wB):=by rw[←hwB];exact(Below.refl _ _).alloc (Nat.le_refl _) _
    obtain⟨q10,hq10⟩:∃q,wr.heap.size=q:=⟨_,rfl⟩
    have XB:Hid (Bx q10 #[.int .u8 (xk:Int),.string (sb xn),.slice Al lm cl] 62 wB):=by rw[←hwB,←hq10];exact Bx.last wr _ _
    have HWB:=Lib.hid hwB
    have HQ10:=Lib.hid hq10
    have HQS:=Lib.hid hqs.out
    clear hwB hq10 hqs hpt hlg hx hlmE hxn hxk
    go_upto_region 18 with fail
    rw[HWB.out,HQ10.out]
    clear HWB u0 u1 u2 z3 zl
    obtain⟨i1,hi1,hz0,hz1,hz2⟩:=info_parts infoLegF
    obtain⟨m6,hm6⟩:∃m,min lm 6=m:=⟨_,rfl⟩
    have hmi:min (lm:Int) 6=(m6:Int):=by rw[←hm6];omega
    have hmn:(m6:Int)≤(cl:Int):=by omega
    have hm0:(0:Int)≤(m6:Int):=by omega
    have hm6p:m6≤lm:=by omega
    have hm66:m6≤6:=by omega
    have HT6:Hid (lg.take 6=lg.take m6):=by
     unfold Hid
     rcases Nat.le_total lm 6 with h8|h8
     ·rw[List.take_of_length_le (by rw[HLM.out];exact h8),List.take_of_length_le (by rw[HLM.out];omega)]
     ·rw[show m6=6 by omega]
    have BBW:=Lib.hid (Below.then_ BWR.out BB.out)
    have BBX:Hid (Below w.heap.size w (wB.alloc (.cells #[] 65))):=Below.then_ BBW.out ((Below.refl _ _).alloc (Nat.le_refl _) _)
    have HSRC:=Lib.hid (Rd.src (c:=lgc) HLM.out HLG.out.1 BBX.out m6 hm6p)
    have HLEN:Hid (((lg.take m6).flatMap lgc).length=m6*13):=by
     unfold Hid
     rw[flatC_len lgc 13 lgC_len,List.length_take,HLM.out,Nat.min_eq_left hm6p]
    have HONE:=Lib.hid (lgcs_one (lg.take m6))
    have y2:=(XB.out.grow (.cells #[] 65)).cell 2 (u:=.slice Al lm cl) rfl
    have yl:=(XB.out.grow (.cells #[] 65)).lt
    have HOWN0:=Lib.hid (World.ownsRow_lit (base:=w.heap.size) (e:=65) (size:=13) wB #[] 0 BBW.out.size (by unfold maxLen;omega) rfl)
    clear hm6
    go_wp2_with (at_builtin;(refine wpList_append_any rfl _ _ 60 rfl w.heap.size 65 i1 (.agg #[.int .u8 0,.string ⟨#[]⟩,.string ⟨#[]⟩,.int .u8 0,.bool false,.int .i64 0,.int .i64 0,.int .i64 0,.int .i64 0,.int .i64 0,.int .i64 0,.int .i64 0,.int .i64 0]) 13 112 Tryz.underlying60 hi1 hz0 hz1 hz2 rfl (by decide) (.slice (some ⟨wB.heap.size,0,none⟩) 0 0) 0 [] rfl HOWN0.out Al m6 cl ((lg.take m6).flatMap lgc) rfl HLEN.out HSRC.out HONE.out ?k3 ?k4 BBX.out.size ?_))
    case k3=>unfold maxLen;omega
    case k4=>omega
    intro v5 w5 hown5 hg5 ho5
    have hown5':w5.ownsRow w.heap.size 65 13 v5 m6 ((lg.take m6).flatMap lgc):=by simpa using hown5
    obtain⟨A5,n5,c5,rfl⟩:=own_form hown5'
    have hF5:Frm (fun k=>k=wB.heap.size) (wB.alloc (.cells #[] 65)) w5:=⟨hg5.os,hg5.tape,hg5.output,hg5.size,fun k hk hn=>hg5.block k hk (fun e3=>hn (by simpa [Value.ownBlock] using e3))⟩
    have hB5:Below wB.heap.size wB w5:=((Below.refl _ _).alloc (Nat.le_refl _) _).trans (hF5.below (by simp) (fun k hk=>by rw[hk];exact Nat.le_refl _))
    have X5:=Lib.hid (XB.out.via hB5)
    have f2:=X5.out.free 2
    have z2:=X5.out.cell 2 (u:=.slice Al lm cl) rfl
    have zl:=X5.out.lt
    have BW5:=Lib.hid (Below.then_ BB.out hB5)
    have OW5:=Lib.hid hown5'
    clear hown5 hown5' hg5 ho5 hF5 hB5 y2 yl HOWN0 HSRC HLEN HONE hi1 hz0 hz1 hz2 hmi hmn hm0
    go_upto_region 19 with fail
    obtain⟨w6,hw6⟩:∃W,w5.setCell ⟨q10,2,none⟩ (.slice A5 n5 c5)=W:=⟨_,rfl⟩
    have X6:Hid (Bx q10 #[.int .u8 (xk:Int),.string (sb xn),.slice A5 n5 c5] 62 w6):=by rw[←hw6];exact X5.out.set 2 _
    have S6:=Lib.hid (HQS.out.below (by rw[←hw6];exact BW5.out.setCell (by show wr.heap.size≤q10;rw[HQ10.out];exact Nat.le_refl _) _:Below wr.heap.size wr w6))
    have P6:Hid (RdT w6 65 13 (.slice A5 n5 c5) m6 ((lg.take m6).flatMap lgc)):=by
     rw[←hw6];exact(RdT.of_own OW5.out).frmW (frm_setF _ _ _ _) (ne_box X5.out (by decide))
    rw[hw6]
    clear hw6 f2 z2 zl X5 BW5 OW5 XB BB BBW BBX HQS
    obtain⟨ia,ha,ha0,ha1,ha2⟩:=info_parts infoPartF
    obtain⟨Av,nv,cv,rfl⟩:=own_form S6.out.own
    obtain⟨⟨z0,z1,z2⟩,_⟩:=X6.out.cells3
    have zl:=X6.out.lt
    have S7:=Lib.hid (S6.out.below ((Below.refl _ _).alloc (Nat.le_refl _) (.cells #[.int .u8 (xk:Int),.string (sb xn),.slice A5 n5 c5] 62)))
    have hLL:LQ.length≤5:=by
     have h1:=congrArg List.length S6.out.eq
     rw[List.length_map,List.length_map,List.length_take] at h1;omega
    have HNEW:Hid (∀j u,([.int .u8 (xk:Int),.string (sb xn),.slice A5 n5 c5]:List Value)[j]? = some u→(w6.alloc (.cells #[.int .u8 (xk:Int),.string (sb xn),.slice A5 n5 c5] 62)).cell? ((⟨w6.heap.size,0,none⟩:Addr).add j)=some u):=World.news_of_block (cs := #[.int .u8 (xk:Int),.string (sb xn),.slice A5 n5 c5]) (Bx.last w6 _ _)
    go_wp2_with (at_builtin;(refine wpList_append_any rfl _ _ 55 rfl w1.heap.size 62 ia (.agg #[.int .u8 0,.string ⟨#[]⟩,.slice none 0 0]) 3 48 Tryz.underlying55 ha ha0 ha1 ha2 rfl (by decide) (.slice Av nv cv) LQ.length (LQ.flatMap pac) rfl S7.out.own (some ⟨w6.heap.size,0,none⟩) 1 1 [.int .u8 (xk:Int),.string (sb xn),.slice A5 n5 c5] rfl rfl (fun _=>⟨_,rfl,HNEW.out⟩) ?l2 ?l3 ?l4 S7.out.be.size ?_))
    case l2=>intro u hu;simp only[List.mem_cons,List.not_mem_nil,or_false] at hu;rcases hu with rfl|rfl|rfl <;> rfl
    case l3=>unfold maxLen;omega
    case l4=>omega
    intro v8 w8 hown8 hg8 ho8
    have hown8':w8.ownsRow w1.heap.size 62 3 v8 (LQ++[(Value.slice A5 n5 c5,fewP ⟨xk,xn,lg⟩)]).length ((LQ++[(Value.slice A5 n5 c5,fewP ⟨xk,xn,lg⟩)]).flatMap pac):=by
     rw[List.length_append,List.flatMap_append];simpa [pac,fewP] using hown8
    obtain⟨A8,n8,c8,rfl⟩:=own_form hown8'
    have hFG:=frm_row hg8
    have hx8:Bx q7 _ 57 w8:=(hFG.block q7 S7.out.x.lt (ne_row S7.out.own (by decide) q7 _ _ S7.out.x)).trans S7.out.x
    have N8:Hid (FwQ w1 q7 #[.string (sb ap),.string (sb nm),.int .u8 (kd:Int),.slice (some ⟨g2,o2,none⟩) pm cx] pa (i+1) (LQ++[(Value.slice A5 n5 c5,fewP ⟨xk,xn,lg⟩)]) (.slice A8 n8 c8) w8):=by
     refine⟨hx8,hown8',?_,?_,S7.out.be.trans (hFG.below S7.out.be.size (fun k hk=>(S7.out.own.lt k hk).1)),S7.out.lo⟩
     ·rw[List.map_append,S7.out.eq,HTQ.out,List.map_append];rfl
     ·intro y hy
      rcases List.mem_append.1 hy with hy|hy
      ·exact(S7.out.pe y hy).frmW hFG (ne_row S7.out.own (by decide))
      ·obtain rfl:=List.mem_singleton.1 hy
       refine⟨HXO.out.1,HXO.out.2,?_,fun l hl=>HLG.out.2 l (List.mem_of_mem_take hl)⟩
       show RdT _ 65 13 (.slice A5 n5 c5) (lg.take 6).length ((lg.take 6).flatMap lgc)
       rw[HT6.out,List.length_take,HLM.out,Nat.min_eq_left hm6p]
       exact(P6.out.alloc _).frmW hFG (ne_row S7.out.own (by decide))
    clear hown8 hown8' hg8 ho8 hFG hx8 z0 z1 z2 zl S6 S7 X6 P6 HNEW ha ha0 ha1 ha2
    go_wp2_with fail
    go_roundw
    case rel=>exact⟨i+1,_,hlm,hl5,by go_num,N8⟩
    case measure=>simp[intOf];omega
   | false =>
    have hno:=of_decide_eq_false hbd
    have HENDQ:Hid (pa.take i=pa.take 5):=by
     unfold Hid
     rcases Nat.lt_or_ge i pm with h1|h1
     ·rw[show i=5 by omega]
     ·rw[List.take_of_length_le (by rw[HPM.out];omega),List.take_of_length_le (by rw[HPM.out];omega)]
    clear hbd hno z3 zl
    obtain⟨Sv,nv5,cv5,rfl⟩:=own_form hqs.out.own
    have z3:=hqs.out.x.cell 3 (u:=.slice Ax pm cx) rfl
    have f3:=hqs.out.x.free 3
    have zl:=hqs.out.x.lt
    go_upto_region 21 with fail
    obtain⟨w6,hw6⟩:∃W,wr.setCell ⟨q7,3,none⟩ (.slice Sv nv5 cv5)=W:=⟨_,rfl⟩
    have X6:Hid (Bx q7 #[.string (sb ap),.string (sb nm),.int .u8 (kd:Int),.slice Sv nv5 cv5] 57 w6):=by rw[←hw6];exact hqs.out.x.set 3 _
    have S6:=Lib.hid (SW.out.below (by rw[←hw6];exact hqs.out.be.setCell (by show w1.heap.size≤q7;rw[HQ7.out];exact Nat.le_refl _) _:Below w1.heap.size w1 w6))
    have P6:Hid (RdT w6 62 3 (.slice Sv nv5 cv5) LQ.length (LQ.flatMap pac)):=by
     rw[←hw6];exact(RdT.of_own hqs.out.own).frmW (frm_setF _ _ _ _) (ne_box hqs.out.x (by decide))
    have E6:Hid (∀y∈LQ,PaO w6 y):=fun y hy=>by
     rw[←hw6];exact(hqs.out.pe y hy).frmW (frm_setF _ _ _ _) (ne_box hqs.out.x (by decide))
    have HQE:=Lib.hid hqs.out.eq
    rw[HENDQ.out] at HQE
    rw[hw6]
    clear hw6 z3 f3 zl hqs SW HENDQ
    obtain⟨ia,ha,ha0,ha1,ha2⟩:=info_parts infoProcF
    obtain⟨Av,nv,cv,rfl⟩:=own_form S6.out.own
    have y8:=S6.out.s.y.cell 8 (u:=.slice Av nv cv) rfl
    have yl:=S6.out.s.y.lt
    obtain⟨z0,z1,z2,z3⟩:=X6.out.cells4
    have zl:=X6.out.lt
    have S7:=Lib.hid (S6.out.below ((Below.refl _ _).alloc (Nat.le_refl _) (.cells #[.string (sb ap),.string (sb nm),.int .u8 (kd:Int),.slice Sv nv5 cv5] 57)))
    have hLL:LP.length≤4:=by
     have h1:=congrArg List.length S6.out.eq
     rw[List.length_map,List.length_map,List.length_take] at h1;omega
    have HNEW:Hid (∀j u,([.string (sb ap),.string (sb nm),.int .u8 (kd:Int),.slice Sv nv5 cv5]:List Value)[j]? = some u→(w6.alloc (.cells #[.string (sb ap),.string (sb nm),.int .u8 (kd:Int),.slice Sv nv5 cv5] 57)).cell? ((⟨w6.heap.size,0,none⟩:Addr).add j)=some u):=World.news_of_block (cs := #[.string (sb ap),.string (sb nm),.int .u8 (kd:Int),.slice Sv nv5 cv5]) (Bx.last w6 _ _)
    go_wp2_with (at_builtin;(refine wpList_append_any rfl _ _ 28 rfl w.heap.size 57 ia (.agg #[.string ⟨#[]⟩,.string ⟨#[]⟩,.int .u8 0,.slice none 0 0]) 4 64 Tryz.underlying28 ha ha0 ha1 ha2 rfl (by decide) (.slice Av nv cv) LP.length (LP.flatMap prc) rfl S7.out.own (some ⟨w6.heap.size,0,none⟩) 1 1 [.string (sb ap),.string (sb nm),.int .u8 (kd:Int),.slice Sv nv5 cv5] rfl rfl (fun _=>⟨_,rfl,HNEW.out⟩) ?g2 ?g3 ?g4 S7.out.s.be.size ?_))
    case g2=>intro u hu;simp only[List.mem_cons,List.not_mem_nil,or_false] at hu;rcases hu with rfl|rfl|rfl|rfl <;> rfl
    case g3=>unfold maxLen;omega
    case g4=>omega
    intro v8 w8 hown8 hg8 ho8
    have hown8':w8.ownsRow w.heap.size 57 4 v8 (LP++[(Value.slice Sv nv5 cv5,fewR ⟨ap,nm,kd,pa⟩)]).length ((LP++[(Value.slice Sv nv5 cv5,fewR ⟨ap,nm,kd,pa⟩)]).flatMap prc):=by
     rw[List.length_append,List.flatMap_append];simpa [prc,fewR] using hown8
    obtain⟨A8,n8,c8,rfl⟩:=own_form hown8'
    have hFG:=frm_grow (b:=q+2) (j:=8) (v':=Value.slice A8 n8 c8) hg8
    have HY8:=Lib.hid (S7.out.s.row_y S7.out.own (by decide) hg8)
    have ng:=fun e (h1:30≠e) (h2:57≠e)=>not_grow (e:=e) S7.out.s.y S7.out.own h1 h2
    have N8:Hid (FwP w q D (dbA D.hd (.slice Af n cf) (.slice Aa na ca) (.slice (some ⟨g,o,none⟩) np cp)) fv av m L (k+1) (LP++[(Value.slice Sv nv5 cv5,fewR ⟨ap,nm,kd,pa⟩)]) (.slice A8 n8 c8) (w8.setCell ⟨q+2,8,none⟩ (.slice A8 n8 c8))):=by
     refine⟨S7.out.s.push (j:=8) S7.out.own (by decide) hg8,S7.out.fx.frmW hFG (ng _ (by decide) (by decide)),S7.out.aw.frmW hFG (ng _ (by decide) (by decide)),fun x hx=>⟨(S7.out.el x hx).1,(S7.out.el x hx).2.1.frmW hFG (ng _ (by decide) (by decide)),(S7.out.el x hx).2.2⟩,own_frmW hown8' (frm_setF _ _ _ _) (ne_box HY8.out (by decide)),?_,?_⟩
     ·rw[List.map_append,S7.out.eq,HTK.out,List.map_append];rfl
     ·intro x hx
      rcases List.mem_append.1 hx with hx|hx
      ·exact(S7.out.pe x hx).frmW hFG (ng _ (by decide) (by decide)) (ng _ (by decide) (by decide))
      ·obtain rfl:=List.mem_singleton.1 hx
       exact⟨HOKS.out.1,HOKS.out.2.1,HOKS.out.2.2,LQ,HQE.out.symm,(P6.out.alloc _).frmW hFG (ng _ (by decide) (by decide)),fun y hy=>((E6.out y hy).below ((Below.refl _ _).alloc (Nat.le_refl _) _)).frmW hFG (ng _ (by decide) (by decide))⟩
    have k8:=HY8.out.cell 8 (u:=.slice Av nv cv) rfl
    have f8:=HY8.out.free 8
    have l8:=HY8.out.lt
    clear hown8 hown8' hg8 ho8 hFG ng y8 yl z0 z1 z2 z3 zl S6 S7 X6 P6 E6 HNEW ha ha0 ha1 ha2
    go_wp2_with fail
    go_roundw
    case rel=>exact⟨k+1,_,_,hlt,hl4,by go_num,N8⟩
    case measure=>simp[intOf];omega
  | false =>
   have hno:=of_decide_eq_false hbc
   have HEND:Hid (D.pr.take k=D.pr.take 4):=by
    unfold Hid
    rcases Nat.lt_or_ge k np with h1|h1
    ·rw[show k=4 by omega]
    ·rw[List.take_of_length_le (by rw[HNP.out];omega),List.take_of_length_le (by rw[HNP.out];omega)]
   have SE:=Lib.hid hs.out
   clear hbc hno hs x8 xl hk hk4
   obtain⟨F1,F2,rfl,_,_⟩:=SE.out.fx.1.form
   obtain⟨G1,G2,rfl,_,_⟩:=SE.out.aw.1.form
   obtain⟨P1,P2,rfl,_,_⟩:=(Rd.of_own SE.out.own).form
   obtain⟨OUT,hOUT⟩:∃X,dbA D.hd (.slice F1 m F2) (.slice G1 L.length G2) (.slice P1 LP.length P2)=X:=⟨_,rfl⟩
   have HOUT:=Lib.hid hOUT
   have HCS:Hid (∀j u,OUT.toList[j]? = some u→wr.cell? ⟨q+2,0+j,none⟩=some u):=fun j u hu=>by
    rw[Nat.zero_add];rw[←hOUT] at hu;exact SE.out.s.y.cell j (by simpa using hu)
   have FX:Hid (Bx (q+1) OUT 30 (wr.setRow (q+1) OUT)):=setRow_heap _ (q+1) _ OUT 30 (0,0) SE.out.s.z
   have HZB:=Lib.hid SE.out.s.z
   have HFR:Hid (Frm (fun k=>k=q+1) wr (wr.setRow (q+1) OUT)):=⟨rfl,rfl,rfl,by simp[World.setRow],fun k hk hn=>setRow_other wr (q+1) k OUT hn⟩
   have HPG:Hid (Below w.heap.size w (wr.setRow (q+1) OUT)):=SE.out.s.be.trans (HFR.out.below SE.out.s.be.size (fun k hk=>by have:=HQQ.out;omega))
   have h18:OUT.all (·.oneCell')=true:=by rw[←hOUT];simp[dbA,Value.oneCell']
   have hsz9:OUT.size=9:=by rw[←hOUT];rfl
   have h9:OUT.toList.length=9:=by rw[←hOUT];rfl
   have hiS:(Tryz.prog.info? 30).map (·.size)=some OUT.size:=by rw[hsz9];exact infoDB9
   have hoS:dbZ9.size=OUT.size:=by rw[hsz9];rfl
   have yl:=SE.out.s.y.lt
   have hDB:Hid (DbV (wr.setRow (q+1) OUT) (.slice F1 m F2) (.slice G1 L.length G2) (.slice P1 LP.length P2) (fewD D)):=by
    have nb:=fun e (he:30≠e)=>ne_box (e:=e) SE.out.s.z he
    have hfx:=SE.out.fx.frmW HFR.out (nb _ (by decide))
    have haw:=SE.out.aw.frmW HFR.out (nb _ (by decide))
    have hpr:=(RdT.of_own SE.out.own).frmW HFR.out (nb _ (by decide))
    have htk:D.fx.take m=D.fx.take 24:=by
     have h1:=HM.out
     rcases Nat.le_total n 24 with h8|h8
     ·rw[List.take_of_length_le (by rw[HNF.out];omega),List.take_of_length_le (by rw[HNF.out];omega)]
     ·rw[show m=24 by omega]
    have hln:(D.fx.take m).length=m:=by rw[List.length_take,HNF.out];have h1:=HM.out;omega
    refine⟨HH.out.nm,⟨?_,fun x hx=>HH.out.fx.2 x (List.mem_of_mem_take hx)⟩,⟨L,HEQ.out.symm,haw.1,fun x hx=>⟨(SE.out.el x hx).1,((SE.out.el x hx).2.1.frmW HFR.out (nb _ (by decide))).1,(SE.out.el x hx).2.2⟩⟩,⟨LP,?_,hpr.1,fun x hx => ?_⟩⟩
    ·show Rd _ 7 (.slice F1 m F2) (D.fx.take 24).length ((D.fx.take 24).flatMap fxc)
     rw[←htk,hln];exact hfx.1
    ·show(D.pr.take 4).map fewR=LP.map (·.2)
     rw[SE.out.eq,HEND.out]
    ·obtain⟨a1,a2,a3,LQ,a4,a5,a6⟩:=SE.out.pe x hx
     exact⟨a1,a2,a3,LQ,a4,(a5.frmW HFR.out (nb _ (by decide))).1,fun y hy=>⟨(a6 y hy).1,(a6 y hy).2.1,((a6 y hy).2.2.1.frmW HFR.out (nb _ (by decide))).1,(a6 y hy).2.2.2⟩⟩
   obtain⟨W9,hW9⟩:∃W,wr.setRow (q+1) OUT=W:=⟨_,rfl⟩
   rw[hW9] at FX HPG hDB
   have HW9:=Lib.hid hW9
   clear hW9 HFR hOUT SE HEND HEQ HM
   go_wp2_with (first|(with_reducible refine wpList_load_wide rfl 30 (.tmp 3) rfl (q+2) 0 rfl OUT.toList 9 h9 (aggDB9 _) (sizeDB9 _) HCS.out ?_)|(refine wpList_plain rfl fun _ hK=>wp_store_row 30 (.tmp 2) (.tmp 111) rfl (q+1) OUT rfl rfl 30 _ HZB.out hiS hoS h18 (hK _ _ ?_)))
   rw[HW9.out]
   rw[←HOUT.out] at FX
   obtain⟨⟨x0,x1,x2,x3,x4,x5,x6,x7,x8⟩,_⟩:=Bx.cells9 FX.out
   refine bodyPost_ret (v:=.agg (dbA D.hd (.slice F1 m F2) (.slice G1 L.length G2) (.slice P1 LP.length P2))) (by simp[results,Tryz.results9,go_sem,dbA,x0,x1,x2,x3,x4,x5,x6,x7,x8];try rfl) rfl ?_
   exact⟨⟨_,_,_,rfl,hDB.out⟩,HPG.out⟩
end Go.Proofs.YtgmehlgfilpleaaGreatDoor
