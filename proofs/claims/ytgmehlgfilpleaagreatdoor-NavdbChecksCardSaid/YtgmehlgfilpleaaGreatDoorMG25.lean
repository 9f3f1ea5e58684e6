/-
  Several texts as one.
-/
import Derived.Test.YtgmehlgfilpleaaGreatDoorMG04
import Derived.Lib.AppendStr
import Derived.Test.YtgmehlgfilpleaaGreatDoorMG13
import Derived.Deep.RegionLaw
import Derived.Test.YtgmehlgfilpleaaGreatDoorMG12
import Derived.Test.YtgmehlgfilpleaaGreatDoorDbO
import Derived.Test.YtgmehlgfilpleaaGreatDoorCkP
import Derived.SizedLaws
namespace Go.Proofs.YtgmehlgfilpleaaGreatDoor
open Go.RowKit
set_option linter.unusedVariables false
set_option linter.unusedSimpArgs false
theorem WrR.two {g B ga:Nat} {v v1 v2:Value} {out out2:List UInt8} {w w3 w4:World} {o:Obj} (h:WrR g B v out w) (hg:(w.alloc o).grownBy w3 v.ownBlock) (h1:∀b,v1.ownBlock=some b→v.ownBlock=some b∨w.heap.size≤b) (hg2:w3.grownBy w4 v1.ownBlock)
  (hown:w4.ownsRow B 5 1 v2 out2.length (out2.map u8c)) (hga:v.ownBlock≠some ga) (hgl:ga<w.heap.size) (hgg:ga≠g) :
  WrR g B v2 out2 (w4.setCell ⟨g,0,none⟩ v2)∧Frm (fun j=>j=g∨(B≤j∧j≠ga)) w (w4.setCell ⟨g,0,none⟩ v2)∧Bx g #[v] 132 w4:=by
 have hlt:=h.own.lt
 have lo:=h.lo
 have hi:=h.hi
 have hgl0:=h.bx.lt
 have hs3:w.heap.size≤w3.heap.size:=by have:=hg.size;rw[World.size_alloc] at this;omega
 have hs4:=hg2.size
 have hk:∀k,k<w.heap.size→v.ownBlock≠some k→w4.heap[k]? = w.heap[k]? := fun k hk hn =>
  (hg2.block k (by omega) (fun e=>by rcases h1 k e.symm with e2|e2;exact hn e2;omega)).trans ((hg.block k (by rw[World.size_alloc];omega) (fun e=>hn e.symm)).trans (((Below.refl w.heap.size w).alloc (Nat.le_refl _) o).block k hk))
 have hoth:∀k,k≠g→(w4.setCell ⟨g,0,none⟩ v2).heap[k]? = w4.heap[k]? := fun k hk=>heap_setCell_other w4 ⟨g,0,none⟩ k v2 (fun e=>hk (by simpa using e))
 have hng:v.ownBlock≠some g:=h.lo
 have hx4:Bx g #[v] 132 w4:=(hk g hgl0 hng).trans h.bx
 refine⟨⟨hx4.set 0 v2,?_,by simp;omega⟩,⟨hg2.os.trans hg.os,hg2.tape.trans hg.tape,hg2.output.trans hg.output,by simp;omega,fun k hkl hn => ?_⟩,hx4⟩
 ·obtain⟨hl,h2|⟨b,cap,cur,hv,hb,hh,r⟩⟩:=hown
  ·exact⟨hl,.inl h2⟩
  ·exact⟨hl,.inr ⟨b,cap,cur,hv,hb,(hoth b (bx_ne hx4 hh)).trans hh,r⟩⟩
 ·refine(hoth k (fun e=>hn (.inl e))).trans (hk k hkl (fun e => ?_))
  have:=(hlt _ e).1
  exact hn (.inr ⟨this,fun e2=>hga (e2 ▸ e)⟩)
theorem WrR.below {g B:Nat} {v:Value} {out:List UInt8} {w w':World} (h:WrR g B v out w) (hb:Below w.heap.size w w'):WrR g B v out w' :=
 ⟨h.bx.via hb,own_below h.own hb,Nat.le_trans h.hi hb.size⟩
theorem WrR.beside {g1 B1 g2 B2:Nat} {v1 v2 v2':Value} {out1 out2:List UInt8} {w w':World} (h:WrR g1 B1 v1 out1 w) (k:WrTo g2 B2 v2 out2 w v2' w') (hg:g1≠g2) (h1:v2.ownBlock≠some g1) (hd:∀b,v1.ownBlock=some b→v2.ownBlock≠some b∧b≠g2):WrR g1 B1 v1 out1 w':=by
 refine⟨(k.f.block g1 h.bx.lt (fun e=>by rcases e with e|e;exact hg e;exact h1 e)).trans h.bx,?_,Nat.le_trans h.hi k.f.size⟩
 obtain⟨hl,h2|⟨b,cap,cur,hv,hb,hh,r⟩⟩:=h.own
 ·exact⟨hl,.inl h2⟩
 ·refine⟨hl,.inr ⟨b,cap,cur,hv,hb,(k.f.block b (heap_lt hh) (fun e => ?_)).trans hh,r⟩⟩
  obtain⟨e1,e2⟩:=hd b (by rw[hv];rfl)
  rcases e with e|e
  ·exact e2 e
  ·exact e1 e
theorem WrTo.of_below {g B:Nat} {v v':Value} {out:List UInt8} {w w1 w':World} (hb:Below w.heap.size w w1) (h:WrTo g B v out w1 v' w'):WrTo g B v out w v' w' :=
 ⟨h.r,(Frm.of_below hb).trans h.f,fun b e=>by rcases h.o b e with h1|h1;exact .inl h1;exact .inr (Nat.le_trans hb.size h1)⟩
theorem sep_to {g1 B1 g2:Nat} {v1 v2 va:Value} {out1:List UInt8} {w:World} (h1:WrR g1 B1 v1 out1 w) (hgo:v2.ownBlock≠some g1) (hd:∀b,v1.ownBlock=some b→v2.ownBlock≠some b∧b≠g2) (o:∀b,va.ownBlock=some b→v2.ownBlock=some b∨w.heap.size≤b) :
  va.ownBlock≠some g1∧∀b,v1.ownBlock=some b→va.ownBlock≠some b∧b≠g2:=by
 have hl:=h1.bx.lt
 refine⟨fun e => ?_,fun b hb=>⟨fun e => ?_,(hd b hb).2⟩⟩
 ·rcases o _ e with h|h
  ·exact hgo h
  ·omega
 ·have:=(h1.own.lt b hb).2
  rcases o _ e with h|h
  ·exact(hd b hb).1 h
  ·omega
section
variable {P:Program} (w:World)
end
structure WrF (g:Nat) (v:Value) (out:List UInt8) (w:World):Prop where
 bx:Bx g #[v] 132 w
 v:∃b,v=.slice (some ⟨b,0,none⟩) out.length out.length∧BsA w b 0 out
theorem WrF.below {g:Nat} {v:Value} {out:List UInt8} {w w':World} (h:WrF g v out w) (hb:Below w.heap.size w w'):WrF g v out w':=by
 obtain⟨hx,b,hv,hbs⟩:=h
 exact⟨hx.via hb,b,hv,hbs.below hb⟩
def fewA (a:AwD):AwD:={a with ps:=a.ps.take 8}
def fewP (x:Pa):Pa:={x with lg:=x.lg.take 6}
def fewR (p:Prc):Prc:={p with pa:=(p.pa.take 5).map fewP}
def fewD (d:DbD):DbD:={d with fx:=d.fx.take 24,aw:=(d.aw.take 6).map fewA,pr:=(d.pr.take 4).map fewR}
section
variable {P:Program} (w:World)
end
theorem WrTo.box {g B q:Nat} {v v':Value} {out out0:List UInt8} {w w':World} {cs:Array Value} {T:TypeId} (h:WrTo g B v out w v' w') (h0:WrR g B v out0 w) (hb:Bx q cs T w) (hT:T≠5) (hq:q≠g):Bx q cs T w':=by
 refine(h.f.block q hb.lt (fun e => ?_)).trans hb
 rcases e with e|e
 ·exact hq e
 ·obtain⟨cur,e',z,hh,he⟩:=own_block h0.own q e
  unfold Bx at hb
  rw[hb] at hh
  injection hh with hh
  injection hh with _ h6 _
  exact hT (h6.trans he)
end Go.Proofs.YtgmehlgfilpleaaGreatDoor
namespace Go.Proofs.YtgmehlgfilpleaaGreatDoor
open Go.ChangeShapes Go.WideShapes Go.Deep Go.RowKit
set_option linter.unusedVariables false
set_option linter.unusedSimpArgs false
section
variable {H:Type} {enc:TypeId × Value→H} {w:World} {base:Nat} {held:Bool}
def FixDat (l:List Fx) (d:DataW H):Prop:=l=[]∨∃es sp:List (DataW H),d=.slice es sp∧es.length=l.length∧∀i (h:i<l.length),∃r:List (DataW H),es[i]? = some (.agg (.lit (.string l[i].id) :: .lit (.string l[i].rg)::r))
set_option maxRecDepth 100000 in
theorem open_fixS {fuel:Nat} {cs:List Value} {x:DataW H × List MemPlace} (h:DataW.trod enc Tryz.prog w base (fun _=>true) held fuel 38 cs=some x) :
  ∃(f:Fx) (r:List (DataW H)),cs=fxc f∧FxOk f∧x.1=.agg (.lit (.string f.id) :: .lit (.string f.rg)::r):=by
 obtain⟨f,rfl,hok⟩:=open_fixD h
 obtain⟨ys,n,_,hx,hl,hyl,hf⟩:=DataW.trod_struct Tryz.underlying38 h
 have h0:DataW.trod enc Tryz.prog w base (fun _=>true) held n 9 (((fxc f).drop 0).take (Tryz.prog.cellsOf 9))=ys[0]? := hf 0 _ rfl
 have h1:DataW.trod enc Tryz.prog w base (fun _=>true) held n 9 (((fxc f).drop 1).take (Tryz.prog.cellsOf 9))=ys[1]? := hf 1 _ rfl
 rw[db_cString] at h0 h1
 match ys,hyl with
 | [z0,z1,z2,z3,z4,z5],_ =>
  obtain⟨s,e0,hz0,_⟩:=DataW.trod_string Tryz.underlying9 (show DataW.trod enc Tryz.prog w base (fun _=>true) held n 9 [.string (sb f.id)]=some z0 from h0)
  obtain⟨t,e1,hz1,_⟩:=DataW.trod_string Tryz.underlying9 (show DataW.trod enc Tryz.prog w base (fun _=>true) held n 9 [.string (sb f.rg)]=some z1 from h1)
  obtain rfl:sb f.id=s:=by simpa using e0
  obtain rfl:sb f.rg=t:=by simpa using e1
  refine⟨f,[z2.1,z3.1,z4.1,z5.1],rfl,hok,?_⟩
  rw[hx,hz0,hz1]
  show DataW.agg [.lit (.string (bl (sb f.id))),.lit (.string (bl (sb f.rg))),z2.1,z3.1,z4.1,z5.1]=_
  rw[bl_sb,bl_sb]
theorem open_fixesS {fuel:Nat} {v:Value} {x:DataW H × List MemPlace} (h:DataW.trod enc Tryz.prog w base (fun _=>true) held fuel 26 [v]=some x) :
  ∃l,FxsD w v l∧FixDat l x.1:=by
 rcases open_slice Tryz.underlying26 h with ⟨hcs,_⟩|⟨a,len,cap,m,n,D,Pl,hcs,hb,hl,hm,hmm,hx,hi⟩
 ·obtain rfl:v=.slice none 0 0:=by simpa using hcs
  exact⟨[],⟨Rd.nil w 7,by simp⟩,.inl rfl⟩
 ·obtain rfl:v=.slice (some a) len cap:=by simpa using hcs
  obtain rfl:m=cap:=hmm
  obtain⟨l,rfl,hp⟩:=list_of (P:=fun i (p:Fx)=>(∀j,j<7→w.cell? ((a.add (i*7)).add j)=(fxc p)[j]?)∧FxOk p∧∃r:List (DataW H),D i=.agg (.lit (.string p.id) :: .lit (.string p.rg)::r)) len (fun i hil=>by
   obtain⟨cs',hc,ht'⟩:=hi i (by omega)
   rw[db_cApiFix] at hc
   obtain⟨_,hcl,hat⟩:=World.cells?_some hc
   obtain⟨f,r,rfl,hok,hD⟩:=open_fixS ht'
   exact⟨f,hat,hok,r,hD⟩)
  refine⟨l,⟨?_,fun p hpm => ?_⟩,.inr ⟨_,_,by rw[hx],by rw[List.length_map,List.length_range],fun i hil => ?_⟩⟩
  ·have h2:=rdK_new (w:=w) (a:=a) (cap:=m) (k:=7) (l.map fxc) (by intro c hc;rw[List.mem_map] at hc;obtain⟨p,_,rfl⟩:=hc;rfl) (by decide) (by rw[List.length_map];exact hl) hm (fun i hi2 j hj=>by
    rw[List.length_map] at hi2
    rw[List.getElem_map]
    exact(hp i hi2).1 j hj)
   rw[List.length_map] at h2
   exact h2
  ·obtain⟨i,hi2,rfl⟩:=List.getElem_of_mem hpm
   exact(hp i hi2).2.1
  ·obtain⟨_,_,r,hD⟩:=hp i hil
   exact⟨r,by rw[List.getElem?_map,List.getElem?_range hil,←hD];rfl⟩
set_option maxRecDepth 100000 in
theorem open_dbS {fuel:Nat} {cs:List Value} {x:DataW H × List MemPlace} (h:DataW.trod enc Tryz.prog w base (fun _=>true) held fuel 30 cs=some x) :
  ∃(D:DbD) (f a p:Value) (d0 d1 d2 d3:DataW H),cs=dbC D.hd f a p∧DbV w f a p D∧x.1=.agg [d0,d1,d2,d3]∧FixDat D.fx d1:=by
 obtain⟨D,f,a,p,rfl,hv⟩:=open_db h
 obtain⟨ys,n,_,hx,hl,hyl,hf⟩:=DataW.trod_struct Tryz.underlying30 h
 have h1:DataW.trod enc Tryz.prog w base (fun _=>true) held n 26 (((dbC D.hd f a p).drop 6).take (Tryz.prog.cellsOf 26))=ys[1]? := hf 1 _ rfl
 rw[db_cSlApiFix] at h1
 match ys,hyl with
 | [z0,z1,z2,z3],_ =>
  obtain⟨l,hl2,hd⟩:=open_fixesS (show DataW.trod enc Tryz.prog w base (fun _=>true) held n 26 [f]=some z1 from h1)
  exact⟨{D with fx:=l},f,a,p,z0.1,z1.1,z2.1,z3.1,rfl,⟨hv.nm,hl2,hv.aw,hv.pr⟩,by rw[hx];rfl,hd⟩
theorem weights_all_mem {P:Program} {e:TypeId}:∀{ds:List (DataW H)} {i:Nat} {d:DataW H},ds[i]? = some d→∀n∈d.weights P e,n∈DataW.weightsAll P e ds
 | [],i,d,h,n,_=>by simp at h
 | d'::ds,0,d,h,n,hn=>by
  simp only[List.getElem?_cons_zero,Option.some.injEq] at h
  subst h
  rw[DataW.weightsAll]
  exact List.mem_append_left _ hn
 | d'::ds,i+1,d,h,n,hn=>by
  simp only[List.getElem?_cons_succ] at h
  rw[DataW.weightsAll]
  exact List.mem_append_right _ (weights_all_mem h n hn)
set_option maxRecDepth 100000 in
theorem sized_db {ts:List TypeId} {ds:List (DataW H)} {d0 d1 d2 d3:DataW H} {l:List Fx} (h:(DataW.weightsEach Tryz.prog ts ds).all (· ≤ reachBytes)=true) {j:Nat} (ht:ts[j]? = some 30) (hd:ds[j]? = some (.agg [d0,d1,d2,d3]))
  (hl:FixDat l d1):SzL l:=by
 have hrb:reachBytes=140737488351232:=by decide
 rcases hl with rfl|⟨es,sp,rfl,hlen,hes⟩
 ·intro f hf;cases hf
 ·intro f hf
  obtain⟨i,hi,rfl⟩:=List.getElem_of_mem hf
  obtain⟨r,he⟩:=hes i hi
  have key:∀n:Nat,n∈DataW.weights Tryz.prog 38 (.agg (.lit (.string l[i].id) :: .lit (.string l[i].rg)::r):DataW H)→n≤140737488351232:=fun n hn=>by
   have hmem:n∈DataW.weightsEach Tryz.prog ts ds:=by
    refine DataW.weights_mem_each ht hd _ ?_
    rw[DataW.weights,Tryz.underlying30]
    show _∈DataW.weightsEach Tryz.prog [25,26,27,28] [d0,.slice es sp,d2,d3]
    refine DataW.weights_mem_each (j:=1) rfl rfl _ ?_
    rw[DataW.weights,Tryz.underlying26]
    exact List.mem_cons_of_mem _ (List.mem_append_left _ (weights_all_mem he n hn))
   have h2:=of_decide_eq_true (List.all_eq_true.1 h _ hmem)
   omega
  rw[DataW.weights,Tryz.underlying38] at key
  have k0:=key l[i].id.length (by
   show _∈DataW.weightsEach Tryz.prog [9,9,36,23,2,2] (.lit (.string l[i].id) :: .lit (.string l[i].rg)::r)
   exact DataW.weights_mem_each (j:=0) rfl rfl _ (by rw[DataW.weights];exact List.mem_cons_self ..))
  have k1:=key l[i].rg.length (by
   show _∈DataW.weightsEach Tryz.prog [9,9,36,23,2,2] (.lit (.string l[i].id) :: .lit (.string l[i].rg)::r)
   exact DataW.weights_mem_each (j:=1) rfl rfl _ (by rw[DataW.weights];exact List.mem_cons_self ..))
  omega
theorem fewD_sz {D:DbD} (h:SzL D.fx):SzD (fewD D):=by
 refine⟨h.take 24,fun p hp => ?_⟩
 obtain⟨q,hq,rfl⟩:=List.mem_map.1 hp
 refine⟨?_,fun x hx => ?_⟩
 ·show((q.pa.take 5).map fewP).length≤1000000
  rw[List.length_map,List.length_take];omega
 ·obtain⟨y,hy,rfl⟩:=List.mem_map.1 hx
  show(y.lg.take 6).length≤1000000
  rw[List.length_take];omega
end
end Go.Proofs.YtgmehlgfilpleaaGreatDoor
