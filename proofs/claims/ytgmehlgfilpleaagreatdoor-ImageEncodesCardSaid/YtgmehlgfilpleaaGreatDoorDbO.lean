/-
  Arguments that are databases, opened to cells.
-/
import Derived.Test.YtgmehlgfilpleaaGreatDoorMG15
import Derived.OpenShut
import Derived.ShutString
import Derived.Deep.Slices
import Derived.Deep.Fields
import Derived.ChangeSame
import Derived.ChangeArms
import Derived.Carry
namespace Go.Proofs.YtgmehlgfilpleaaGreatDoor
open Go.ChangeShapes Go.WideShapes Go.Deep Go.RowKit
set_option linter.unusedVariables false
set_option linter.unusedSimpArgs false
theorem u8_bd {d:Int} (hd:(Lit.int .u8 d).wf=true):0≤d∧d<256:=by
 have e1:IntKind.u8.min=0:=by decide
 have e2:IntKind.u8.max=255:=by decide
 simp[Lit.wf] at hd
 omega
section
variable {H:Type} {enc:TypeId × Value→H} {P:Program} {w:World} {base:Nat} {spare:Nat→Bool} {held:Bool}
theorem open_rowsD {t e:TypeId} {k fuel:Nat} {v:Value} {x:DataW H × List MemPlace} (ht:P.underlying t=some (.slice e)) (hk:P.cellsOf e=k) (h:DataW.trod enc P w base (fun _=>true) held fuel t [v]=some x) :
  (v=.slice none 0 0)∨∃(a:Addr) (len cap n:Nat),v=.slice (some a) len cap∧len≤cap∧cap≤maxLen ∧
   ∀i,i<len→∃(cs:List Value) (y:DataW H × List MemPlace),cs.length=k∧(∀j,j<k→w.cell? ((a.add (i*k)).add j)=cs[j]?)∧DataW.trod enc P w base (fun _=>true) held n e cs=some y:=by
 rcases open_slice ht h with ⟨hcs,_⟩|⟨a,len,cap,m,n,D,Pl,hcs,hb,hl,hm,hmm,hx,hi⟩
 ·left;simpa using hcs
 ·right
  obtain rfl:v=.slice (some a) len cap:=by simpa using hcs
  refine⟨a,len,cap,n,rfl,hl,hm,fun i hil => ?_⟩
  obtain rfl:m=cap:=hmm
  obtain⟨cs',hc,ht'⟩:=hi i (by omega)
  rw[hk] at hc
  obtain⟨_,hcl,hat⟩:=World.cells?_some hc
  exact⟨cs',_,hcl,hat,ht'⟩
theorem open_listD {α : Type} {t e:TypeId} {k fuel:Nat} {v:Value} {x:DataW H × List MemPlace} (cf : α → List Value) (Q : α → Prop) (ht:P.underlying t=some (.slice e)) (hk:P.cellsOf e=k) (h0:0<k) (hcf:∀a,(cf a).length=k)
  (ho:∀(n:Nat) (cs:List Value) (y:DataW H × List MemPlace),DataW.trod enc P w base (fun _=>true) held n e cs=some y→∃a,cs=cf a∧Q a)
  (h:DataW.trod enc P w base (fun _=>true) held fuel t [v]=some x):∃l:List α,Rd w k v l.length (l.flatMap cf)∧∀a∈l,Q a:=by
 rcases open_rowsD ht hk h with rfl|⟨a,len,cap,n,rfl,hl,hm,hi⟩
 ·exact⟨[],Rd.nil w k,by simp⟩
 ·obtain⟨l,rfl,hp⟩:=list_of (P:=fun i (p : α)=>(∀j,j<k→w.cell? ((a.add (i*k)).add j)=(cf p)[j]?)∧Q p) len (fun i hil=>by
   obtain⟨cs,y,_,hc,ht⟩:=hi i hil
   obtain⟨p,rfl,h1⟩:=ho n cs y ht
   exact⟨p,hc,h1⟩)
  refine⟨l,?_,fun p hpm => ?_⟩
  ·have h2:=rdK_new (w:=w) (a:=a) (cap:=cap) (k:=k) (l.map cf) (by intro c hc;rw[List.mem_map] at hc;obtain⟨p,_,rfl⟩:=hc;exact hcf p) h0 (by rw[List.length_map];exact hl) hm (fun i hi2 j hj=>by
    rw[List.length_map] at hi2
    rw[List.getElem_map]
    exact(hp i hi2).1 j hj)
   rw[List.length_map] at h2
   exact h2
  ·obtain⟨i,hi2,rfl⟩:=List.getElem_of_mem hpm
   exact(hp i hi2).2
end
section
variable {H:Type} {enc:TypeId × Value→H} {w:World} {base:Nat} {held:Bool}
theorem db_cLegType:Tryz.prog.cellsOf 63=1:=by kernel_rfl
theorem db_cString:Tryz.prog.cellsOf 9=1:=by kernel_rfl
theorem db_cU8:Tryz.prog.cellsOf 5=1:=by kernel_rfl
theorem db_cBool:Tryz.prog.cellsOf 4=1:=by kernel_rfl
theorem db_cI64:Tryz.prog.cellsOf 2=1:=by kernel_rfl
theorem db_cWindow:Tryz.prog.cellsOf 51=2:=by kernel_rfl
theorem db_cApiLeg:Tryz.prog.cellsOf 65=13:=by kernel_rfl
set_option maxRecDepth 100000 in
theorem open_leg {fuel:Nat} {cs:List Value} {x:DataW H × List MemPlace} (h:DataW.trod enc Tryz.prog w base (fun _=>true) held fuel 65 cs=some x):∃l:Lg,cs=lgc l∧LgOk l:=by
 obtain⟨ys,n,_,_,hl,hyl,hf⟩:=DataW.trod_struct Tryz.underlying65 h
 rw[db_cApiLeg] at hl
 match cs,hl with
 | [c0,c1,c2,c3,c4,c5,c6,c7,c8,c9,c10,c11,c12],_ =>
  have h0:DataW.trod enc Tryz.prog w base (fun _=>true) held n 63 (([c0,c1,c2,c3,c4,c5,c6,c7,c8,c9,c10,c11,c12].drop 0).take (Tryz.prog.cellsOf 63))=ys[0]? := hf 0 _ rfl
  rw[db_cLegType] at h0
  have h1:DataW.trod enc Tryz.prog w base (fun _=>true) held n 9 (([c0,c1,c2,c3,c4,c5,c6,c7,c8,c9,c10,c11,c12].drop 1).take (Tryz.prog.cellsOf 9))=ys[1]? := hf 1 _ rfl
  rw[db_cString] at h1
  have h2:DataW.trod enc Tryz.prog w base (fun _=>true) held n 9 (([c0,c1,c2,c3,c4,c5,c6,c7,c8,c9,c10,c11,c12].drop 2).take (Tryz.prog.cellsOf 9))=ys[2]? := hf 2 _ rfl
  rw[db_cString] at h2
  have h3:DataW.trod enc Tryz.prog w base (fun _=>true) held n 5 (([c0,c1,c2,c3,c4,c5,c6,c7,c8,c9,c10,c11,c12].drop 3).take (Tryz.prog.cellsOf 5))=ys[3]? := hf 3 _ rfl
  rw[db_cU8] at h3
  have h4:DataW.trod enc Tryz.prog w base (fun _=>true) held n 4 (([c0,c1,c2,c3,c4,c5,c6,c7,c8,c9,c10,c11,c12].drop 4).take (Tryz.prog.cellsOf 4))=ys[4]? := hf 4 _ rfl
  rw[db_cBool] at h4
  have h5:DataW.trod enc Tryz.prog w base (fun _=>true) held n 2 (([c0,c1,c2,c3,c4,c5,c6,c7,c8,c9,c10,c11,c12].drop 5).take (Tryz.prog.cellsOf 2))=ys[5]? := hf 5 _ rfl
  rw[db_cI64] at h5
  have h6:DataW.trod enc Tryz.prog w base (fun _=>true) held n 2 (([c0,c1,c2,c3,c4,c5,c6,c7,c8,c9,c10,c11,c12].drop 6).take (Tryz.prog.cellsOf 2))=ys[6]? := hf 6 _ rfl
  rw[db_cI64] at h6
  have h7:DataW.trod enc Tryz.prog w base (fun _=>true) held n 2 (([c0,c1,c2,c3,c4,c5,c6,c7,c8,c9,c10,c11,c12].drop 7).take (Tryz.prog.cellsOf 2))=ys[7]? := hf 7 _ rfl
  rw[db_cI64] at h7
  have h8:DataW.trod enc Tryz.prog w base (fun _=>true) held n 2 (([c0,c1,c2,c3,c4,c5,c6,c7,c8,c9,c10,c11,c12].drop 8).take (Tryz.prog.cellsOf 2))=ys[8]? := hf 8 _ rfl
  rw[db_cI64] at h8
  have h9:DataW.trod enc Tryz.prog w base (fun _=>true) held n 51 (([c0,c1,c2,c3,c4,c5,c6,c7,c8,c9,c10,c11,c12].drop 9).take (Tryz.prog.cellsOf 51))=ys[9]? := hf 9 _ rfl
  rw[db_cWindow] at h9
  have h10:DataW.trod enc Tryz.prog w base (fun _=>true) held n 2 (([c0,c1,c2,c3,c4,c5,c6,c7,c8,c9,c10,c11,c12].drop 11).take (Tryz.prog.cellsOf 2))=ys[10]? := hf 10 _ rfl
  rw[db_cI64] at h10
  have h11:DataW.trod enc Tryz.prog w base (fun _=>true) held n 2 (([c0,c1,c2,c3,c4,c5,c6,c7,c8,c9,c10,c11,c12].drop 12).take (Tryz.prog.cellsOf 2))=ys[11]? := hf 11 _ rfl
  rw[db_cI64] at h11
  match ys,hyl with
  | [z0,z1,z2,z3,z4,z5,z6,z7,z8,z9,z10,z11],_ =>
   obtain⟨ty,e0,_,g_ty⟩:=DataW.trod_int Tryz.underlying63 (show DataW.trod enc Tryz.prog w base (fun _=>true) held n 63 [c0]=some z0 from h0)
   obtain⟨fi,e1,_,w_fi⟩:=DataW.trod_string Tryz.underlying9 (show DataW.trod enc Tryz.prog w base (fun _=>true) held n 9 [c1]=some z1 from h1)
   obtain⟨ce,e2,_,w_ce⟩:=DataW.trod_string Tryz.underlying9 (show DataW.trod enc Tryz.prog w base (fun _=>true) held n 9 [c2]=some z2 from h2)
   obtain⟨tn,e3,_,g_tn⟩:=DataW.trod_int Tryz.underlying5 (show DataW.trod enc Tryz.prog w base (fun _=>true) held n 5 [c3]=some z3 from h3)
   obtain⟨ov,e4,_⟩:=DataW.trod_bool Tryz.underlying4 (show DataW.trod enc Tryz.prog w base (fun _=>true) held n 4 [c4]=some z4 from h4)
   obtain⟨cr,e5,_,_⟩:=DataW.trod_int Tryz.underlying2 (show DataW.trod enc Tryz.prog w base (fun _=>true) held n 2 [c5]=some z5 from h5)
   obtain⟨ds,e6,_,_⟩:=DataW.trod_int Tryz.underlying2 (show DataW.trod enc Tryz.prog w base (fun _=>true) held n 2 [c6]=some z6 from h6)
   obtain⟨ra,e7,_,_⟩:=DataW.trod_int Tryz.underlying2 (show DataW.trod enc Tryz.prog w base (fun _=>true) held n 2 [c7]=some z7 from h7)
   obtain⟨th,e8,_,_⟩:=DataW.trod_int Tryz.underlying2 (show DataW.trod enc Tryz.prog w base (fun _=>true) held n 2 [c8]=some z8 from h8)
   obtain⟨vs9,m9,_,_,_,hvl9,hg9⟩:=DataW.trod_struct Tryz.underlying51 (show DataW.trod enc Tryz.prog w base (fun _=>true) held n 51 [c9,c10]=some z9 from h9)
   have g90:DataW.trod enc Tryz.prog w base (fun _=>true) held m9 2 (([c9,c10].drop 0).take (Tryz.prog.cellsOf 2))=vs9[0]? := hg9 0 _ rfl
   have g91:DataW.trod enc Tryz.prog w base (fun _=>true) held m9 2 (([c9,c10].drop 1).take (Tryz.prog.cellsOf 2))=vs9[1]? := hg9 1 _ rfl
   rw[db_cI64] at g90 g91
   obtain⟨y90,y91,hy9⟩:∃a b,vs9=[a,b]:=by
    match vs9,hvl9 with
    | [a,b],_=>exact⟨a,b,rfl⟩
   rw[hy9] at g90 g91
   obtain⟨lo,e90,_,_⟩:=DataW.trod_int Tryz.underlying2 (show DataW.trod enc Tryz.prog w base (fun _=>true) held m9 2 [c9]=some y90 from g90)
   obtain⟨hi,e91,_,_⟩:=DataW.trod_int Tryz.underlying2 (show DataW.trod enc Tryz.prog w base (fun _=>true) held m9 2 [c10]=some y91 from g91)
   obtain⟨sp,e10,_,_⟩:=DataW.trod_int Tryz.underlying2 (show DataW.trod enc Tryz.prog w base (fun _=>true) held n 2 [c11]=some z10 from h10)
   obtain⟨rn,e11,_,_⟩:=DataW.trod_int Tryz.underlying2 (show DataW.trod enc Tryz.prog w base (fun _=>true) held n 2 [c12]=some z11 from h11)
   obtain rfl:c0=.int .u8 ty:=by simpa using e0
   obtain rfl:c1=.string fi:=by simpa using e1
   obtain rfl:c2=.string ce:=by simpa using e2
   obtain rfl:c3=.int .u8 tn:=by simpa using e3
   obtain rfl:c4=.bool ov:=by simpa using e4
   obtain rfl:c5=.int .i64 cr:=by simpa using e5
   obtain rfl:c6=.int .i64 ds:=by simpa using e6
   obtain rfl:c7=.int .i64 ra:=by simpa using e7
   obtain rfl:c8=.int .i64 th:=by simpa using e8
   obtain rfl:c9=.int .i64 lo:=by simpa using e90
   obtain rfl:c10=.int .i64 hi:=by simpa using e91
   obtain rfl:c11=.int .i64 sp:=by simpa using e10
   obtain rfl:c12=.int .i64 rn:=by simpa using e11
   have u_ty:0≤ty∧ty<256:=u8_bd g_ty
   have u_tn:0≤tn∧tn<256:=u8_bd g_tn
   refine⟨⟨ty.toNat,bl fi,bl ce,tn.toNat,ov,cr,ds,ra,th,lo,hi,sp,rn⟩,?_,w_fi,w_ce,by show ty.toNat<256;omega,by show tn.toNat<256;omega⟩
   unfold lgc
   rw[sb_bl,sb_bl,show((ty.toNat:Nat):Int)=ty by omega,show((tn.toNat:Nat):Int)=tn by omega]
theorem lgc_len (l:Lg):(lgc l).length=13:=rfl
theorem open_legs {fuel:Nat} {v:Value} {x:DataW H × List MemPlace} (h:DataW.trod enc Tryz.prog w base (fun _=>true) held fuel 60 [v]=some x):∃l,LgsR w v l :=
 open_listD lgc LgOk Tryz.underlying60 db_cApiLeg (by decide) lgc_len (fun n cs y hy=>open_leg hy) h
theorem db_cPartKind:Tryz.prog.cellsOf 59=1:=by kernel_rfl
theorem db_cSlApiLeg:Tryz.prog.cellsOf 60=1:=by kernel_rfl
theorem db_cApiPart:Tryz.prog.cellsOf 62=3:=by kernel_rfl
set_option maxRecDepth 100000 in
theorem open_part {fuel:Nat} {cs:List Value} {x:DataW H × List MemPlace} (h:DataW.trod enc Tryz.prog w base (fun _=>true) held fuel 62 cs=some x):∃p:Value × Pa,cs=pac p∧PaOk w p:=by
 obtain⟨ys,n,_,_,hl,hyl,hf⟩:=DataW.trod_struct Tryz.underlying62 h
 rw[db_cApiPart] at hl
 match cs,hl with
 | [c0,c1,c2],_ =>
  have h0:DataW.trod enc Tryz.prog w base (fun _=>true) held n 59 (([c0,c1,c2].drop 0).take (Tryz.prog.cellsOf 59))=ys[0]? := hf 0 _ rfl
  rw[db_cPartKind] at h0
  have h1:DataW.trod enc Tryz.prog w base (fun _=>true) held n 9 (([c0,c1,c2].drop 1).take (Tryz.prog.cellsOf 9))=ys[1]? := hf 1 _ rfl
  rw[db_cString] at h1
  have h2:DataW.trod enc Tryz.prog w base (fun _=>true) held n 60 (([c0,c1,c2].drop 2).take (Tryz.prog.cellsOf 60))=ys[2]? := hf 2 _ rfl
  rw[db_cSlApiLeg] at h2
  match ys,hyl with
  | [z0,z1,z2],_ =>
   obtain⟨kd,e0,_,g_kd⟩:=DataW.trod_int Tryz.underlying59 (show DataW.trod enc Tryz.prog w base (fun _=>true) held n 59 [c0]=some z0 from h0)
   obtain⟨nm,e1,_,w_nm⟩:=DataW.trod_string Tryz.underlying9 (show DataW.trod enc Tryz.prog w base (fun _=>true) held n 9 [c1]=some z1 from h1)
   obtain⟨lg,w_lg⟩:=open_legs (show DataW.trod enc Tryz.prog w base (fun _=>true) held n 60 [c2]=some z2 from h2)
   obtain rfl:c0=.int .u8 kd:=by simpa using e0
   obtain rfl:c1=.string nm:=by simpa using e1
   have u_kd:0≤kd∧kd<256:=u8_bd g_kd
   refine⟨(c2,⟨kd.toNat,bl nm,lg⟩),?_,w_nm,by show kd.toNat<256;omega,w_lg⟩
   unfold pac
   rw[sb_bl,show((kd.toNat:Nat):Int)=kd by omega]
theorem pac_len (l:Value × Pa):(pac l).length=3:=rfl
theorem open_parts {fuel:Nat} {v:Value} {x:DataW H × List MemPlace} (h:DataW.trod enc Tryz.prog w base (fun _=>true) held fuel 55 [v]=some x):∃l,PasR w v l:=by
 obtain⟨l,h1,h2⟩:=open_listD pac (PaOk w) Tryz.underlying55 db_cApiPart (by decide) pac_len (fun n cs y hy=>open_part hy) h
 exact⟨l.map (·.2),l,rfl,h1,h2⟩
theorem db_cProcKind:Tryz.prog.cellsOf 54=1:=by kernel_rfl
theorem db_cSlApiPart:Tryz.prog.cellsOf 55=1:=by kernel_rfl
theorem db_cApiProcedure:Tryz.prog.cellsOf 57=4:=by kernel_rfl
set_option maxRecDepth 100000 in
theorem open_proc {fuel:Nat} {cs:List Value} {x:DataW H × List MemPlace} (h:DataW.trod enc Tryz.prog w base (fun _=>true) held fuel 57 cs=some x):∃p:Value × Prc,cs=prc p∧PrcOk w p:=by
 obtain⟨ys,n,_,_,hl,hyl,hf⟩:=DataW.trod_struct Tryz.underlying57 h
 rw[db_cApiProcedure] at hl
 match cs,hl with
 | [c0,c1,c2,c3],_ =>
  have h0:DataW.trod enc Tryz.prog w base (fun _=>true) held n 9 (([c0,c1,c2,c3].drop 0).take (Tryz.prog.cellsOf 9))=ys[0]? := hf 0 _ rfl
  rw[db_cString] at h0
  have h1:DataW.trod enc Tryz.prog w base (fun _=>true) held n 9 (([c0,c1,c2,c3].drop 1).take (Tryz.prog.cellsOf 9))=ys[1]? := hf 1 _ rfl
  rw[db_cString] at h1
  have h2:DataW.trod enc Tryz.prog w base (fun _=>true) held n 54 (([c0,c1,c2,c3].drop 2).take (Tryz.prog.cellsOf 54))=ys[2]? := hf 2 _ rfl
  rw[db_cProcKind] at h2
  have h3:DataW.trod enc Tryz.prog w base (fun _=>true) held n 55 (([c0,c1,c2,c3].drop 3).take (Tryz.prog.cellsOf 55))=ys[3]? := hf 3 _ rfl
  rw[db_cSlApiPart] at h3
  match ys,hyl with
  | [z0,z1,z2,z3],_ =>
   obtain⟨ap,e0,_,w_ap⟩:=DataW.trod_string Tryz.underlying9 (show DataW.trod enc Tryz.prog w base (fun _=>true) held n 9 [c0]=some z0 from h0)
   obtain⟨nm,e1,_,w_nm⟩:=DataW.trod_string Tryz.underlying9 (show DataW.trod enc Tryz.prog w base (fun _=>true) held n 9 [c1]=some z1 from h1)
   obtain⟨kd,e2,_,g_kd⟩:=DataW.trod_int Tryz.underlying54 (show DataW.trod enc Tryz.prog w base (fun _=>true) held n 54 [c2]=some z2 from h2)
   obtain⟨pa,w_pa⟩:=open_parts (show DataW.trod enc Tryz.prog w base (fun _=>true) held n 55 [c3]=some z3 from h3)
   obtain rfl:c0=.string ap:=by simpa using e0
   obtain rfl:c1=.string nm:=by simpa using e1
   obtain rfl:c2=.int .u8 kd:=by simpa using e2
   have u_kd:0≤kd∧kd<256:=u8_bd g_kd
   refine⟨(c3,⟨bl ap,bl nm,kd.toNat,pa⟩),?_,w_ap,w_nm,by show kd.toNat<256;omega,w_pa⟩
   unfold prc
   rw[sb_bl,sb_bl,show((kd.toNat:Nat):Int)=kd by omega]
theorem prc_len (l:Value × Prc):(prc l).length=4:=rfl
theorem open_procs {fuel:Nat} {v:Value} {x:DataW H × List MemPlace} (h:DataW.trod enc Tryz.prog w base (fun _=>true) held fuel 28 [v]=some x):∃l,PrcsR w v l:=by
 obtain⟨l,h1,h2⟩:=open_listD prc (PrcOk w) Tryz.underlying28 db_cApiProcedure (by decide) prc_len (fun n cs y hy=>open_proc hy) h
 exact⟨l.map (·.2),l,rfl,h1,h2⟩
theorem db_cApiAirwaypoint:Tryz.prog.cellsOf 53=4:=by kernel_rfl
set_option maxRecDepth 100000 in
theorem open_pointD {fuel:Nat} {cs:List Value} {x:DataW H × List MemPlace} (h:DataW.trod enc Tryz.prog w base (fun _=>true) held fuel 53 cs=some x):∃p:Pt,cs=ptc p∧PtOkD p:=by
 obtain⟨ys,n,_,_,hl,hyl,hf⟩:=DataW.trod_struct Tryz.underlying53 h
 rw[db_cApiAirwaypoint] at hl
 match cs,hl with
 | [c0,c1,c2,c3],_ =>
  have h0:DataW.trod enc Tryz.prog w base (fun _=>true) held n 9 (([c0,c1,c2,c3].drop 0).take (Tryz.prog.cellsOf 9))=ys[0]? := hf 0 _ rfl
  rw[db_cString] at h0
  have h1:DataW.trod enc Tryz.prog w base (fun _=>true) held n 51 (([c0,c1,c2,c3].drop 1).take (Tryz.prog.cellsOf 51))=ys[1]? := hf 1 _ rfl
  rw[db_cWindow] at h1
  have h2:DataW.trod enc Tryz.prog w base (fun _=>true) held n 5 (([c0,c1,c2,c3].drop 3).take (Tryz.prog.cellsOf 5))=ys[2]? := hf 2 _ rfl
  rw[db_cU8] at h2
  match ys,hyl with
  | [z0,z1,z2],_ =>
   obtain⟨rf,e0,_,w_rf⟩:=DataW.trod_string Tryz.underlying9 (show DataW.trod enc Tryz.prog w base (fun _=>true) held n 9 [c0]=some z0 from h0)
   obtain⟨vs1,m1,_,_,_,hvl1,hg1⟩:=DataW.trod_struct Tryz.underlying51 (show DataW.trod enc Tryz.prog w base (fun _=>true) held n 51 [c1,c2]=some z1 from h1)
   have g10:DataW.trod enc Tryz.prog w base (fun _=>true) held m1 2 (([c1,c2].drop 0).take (Tryz.prog.cellsOf 2))=vs1[0]? := hg1 0 _ rfl
   have g11:DataW.trod enc Tryz.prog w base (fun _=>true) held m1 2 (([c1,c2].drop 1).take (Tryz.prog.cellsOf 2))=vs1[1]? := hg1 1 _ rfl
   rw[db_cI64] at g10 g11
   obtain⟨y10,y11,hy1⟩:∃a b,vs1=[a,b]:=by
    match vs1,hvl1 with
    | [a,b],_=>exact⟨a,b,rfl⟩
   rw[hy1] at g10 g11
   obtain⟨lo,e10,_,_⟩:=DataW.trod_int Tryz.underlying2 (show DataW.trod enc Tryz.prog w base (fun _=>true) held m1 2 [c1]=some y10 from g10)
   obtain⟨hi,e11,_,_⟩:=DataW.trod_int Tryz.underlying2 (show DataW.trod enc Tryz.prog w base (fun _=>true) held m1 2 [c2]=some y11 from g11)
   obtain⟨dr,e2,_,g_dr⟩:=DataW.trod_int Tryz.underlying5 (show DataW.trod enc Tryz.prog w base (fun _=>true) held n 5 [c3]=some z2 from h2)
   obtain rfl:c0=.string rf:=by simpa using e0
   obtain rfl:c1=.int .i64 lo:=by simpa using e10
   obtain rfl:c2=.int .i64 hi:=by simpa using e11
   obtain rfl:c3=.int .u8 dr:=by simpa using e2
   have u_dr:0≤dr∧dr<256:=u8_bd g_dr
   refine⟨⟨bl rf,lo,hi,dr.toNat⟩,?_,w_rf,by show dr.toNat<256;omega⟩
   unfold ptc
   rw[sb_bl,show((dr.toNat:Nat):Int)=dr by omega]
theorem ptc_len (l:Pt):(ptc l).length=4:=rfl
theorem open_pointsD {fuel:Nat} {v:Value} {x:DataW H × List MemPlace} (h:DataW.trod enc Tryz.prog w base (fun _=>true) held fuel 46 [v]=some x):∃l,PtsR w v l :=
 open_listD ptc PtOkD Tryz.underlying46 db_cApiAirwaypoint (by decide) ptc_len (fun n cs y hy=>open_pointD hy) h
theorem db_cSlApiAirwaypoint:Tryz.prog.cellsOf 46=1:=by kernel_rfl
theorem db_cApiAirway:Tryz.prog.cellsOf 48=2:=by kernel_rfl
set_option maxRecDepth 100000 in
theorem open_airD {fuel:Nat} {cs:List Value} {x:DataW H × List MemPlace} (h:DataW.trod enc Tryz.prog w base (fun _=>true) held fuel 48 cs=some x):∃p:Value × AwD,cs=awc p∧AwOk w p:=by
 obtain⟨ys,n,_,_,hl,hyl,hf⟩:=DataW.trod_struct Tryz.underlying48 h
 rw[db_cApiAirway] at hl
 match cs,hl with
 | [c0,c1],_ =>
  have h0:DataW.trod enc Tryz.prog w base (fun _=>true) held n 9 (([c0,c1].drop 0).take (Tryz.prog.cellsOf 9))=ys[0]? := hf 0 _ rfl
  rw[db_cString] at h0
  have h1:DataW.trod enc Tryz.prog w base (fun _=>true) held n 46 (([c0,c1].drop 1).take (Tryz.prog.cellsOf 46))=ys[1]? := hf 1 _ rfl
  rw[db_cSlApiAirwaypoint] at h1
  match ys,hyl with
  | [z0,z1],_ =>
   obtain⟨nm,e0,_,w_nm⟩:=DataW.trod_string Tryz.underlying9 (show DataW.trod enc Tryz.prog w base (fun _=>true) held n 9 [c0]=some z0 from h0)
   obtain⟨ps,w_ps⟩:=open_pointsD (show DataW.trod enc Tryz.prog w base (fun _=>true) held n 46 [c1]=some z1 from h1)
   obtain rfl:c0=.string nm:=by simpa using e0
   refine⟨(c1,⟨bl nm,ps⟩),?_,w_nm,w_ps⟩
   unfold awc
   rw[sb_bl]
theorem awc_len (l:Value × AwD):(awc l).length=2:=rfl
theorem open_airsD {fuel:Nat} {v:Value} {x:DataW H × List MemPlace} (h:DataW.trod enc Tryz.prog w base (fun _=>true) held fuel 27 [v]=some x):∃l,AwsD w v l:=by
 obtain⟨l,h1,h2⟩:=open_listD awc (AwOk w) Tryz.underlying27 db_cApiAirway (by decide) awc_len (fun n cs y hy=>open_airD hy) h
 exact⟨l.map (·.2),l,rfl,h1,h2⟩
theorem db_cApiKind:Tryz.prog.cellsOf 36=1:=by kernel_rfl
theorem db_cPos:Tryz.prog.cellsOf 23=2:=by kernel_rfl
theorem db_cApiFix:Tryz.prog.cellsOf 38=7:=by kernel_rfl
set_option maxRecDepth 100000 in
theorem open_fixD {fuel:Nat} {cs:List Value} {x:DataW H × List MemPlace} (h:DataW.trod enc Tryz.prog w base (fun _=>true) held fuel 38 cs=some x):∃f:Fx,cs=fxc f∧FxOk f:=by
 obtain⟨ys,n,_,_,hl,hyl,hf⟩:=DataW.trod_struct Tryz.underlying38 h
 rw[db_cApiFix] at hl
 match cs,hl with
 | [c0,c1,c2,c3,c4,c5,c6],_ =>
  have h0:DataW.trod enc Tryz.prog w base (fun _=>true) held n 9 (([c0,c1,c2,c3,c4,c5,c6].drop 0).take (Tryz.prog.cellsOf 9))=ys[0]? := hf 0 _ rfl
  rw[db_cString] at h0
  have h1:DataW.trod enc Tryz.prog w base (fun _=>true) held n 9 (([c0,c1,c2,c3,c4,c5,c6].drop 1).take (Tryz.prog.cellsOf 9))=ys[1]? := hf 1 _ rfl
  rw[db_cString] at h1
  have h2:DataW.trod enc Tryz.prog w base (fun _=>true) held n 36 (([c0,c1,c2,c3,c4,c5,c6].drop 2).take (Tryz.prog.cellsOf 36))=ys[2]? := hf 2 _ rfl
  rw[db_cApiKind] at h2
  have h3:DataW.trod enc Tryz.prog w base (fun _=>true) held n 23 (([c0,c1,c2,c3,c4,c5,c6].drop 3).take (Tryz.prog.cellsOf 23))=ys[3]? := hf 3 _ rfl
  rw[db_cPos] at h3
  have h4:DataW.trod enc Tryz.prog w base (fun _=>true) held n 2 (([c0,c1,c2,c3,c4,c5,c6].drop 5).take (Tryz.prog.cellsOf 2))=ys[4]? := hf 4 _ rfl
  rw[db_cI64] at h4
  have h5:DataW.trod enc Tryz.prog w base (fun _=>true) held n 2 (([c0,c1,c2,c3,c4,c5,c6].drop 6).take (Tryz.prog.cellsOf 2))=ys[5]? := hf 5 _ rfl
  rw[db_cI64] at h5
  match ys,hyl with
  | [z0,z1,z2,z3,z4,z5],_ =>
   obtain⟨id,e0,_,w_id⟩:=DataW.trod_string Tryz.underlying9 (show DataW.trod enc Tryz.prog w base (fun _=>true) held n 9 [c0]=some z0 from h0)
   obtain⟨rg,e1,_,w_rg⟩:=DataW.trod_string Tryz.underlying9 (show DataW.trod enc Tryz.prog w base (fun _=>true) held n 9 [c1]=some z1 from h1)
   obtain⟨kd,e2,_,g_kd⟩:=DataW.trod_int Tryz.underlying36 (show DataW.trod enc Tryz.prog w base (fun _=>true) held n 36 [c2]=some z2 from h2)
   obtain⟨vs3,m3,_,_,_,hvl3,hg3⟩:=DataW.trod_struct Tryz.underlying23 (show DataW.trod enc Tryz.prog w base (fun _=>true) held n 23 [c3,c4]=some z3 from h3)
   have g30:DataW.trod enc Tryz.prog w base (fun _=>true) held m3 2 (([c3,c4].drop 0).take (Tryz.prog.cellsOf 2))=vs3[0]? := hg3 0 _ rfl
   have g31:DataW.trod enc Tryz.prog w base (fun _=>true) held m3 2 (([c3,c4].drop 1).take (Tryz.prog.cellsOf 2))=vs3[1]? := hg3 1 _ rfl
   rw[db_cI64] at g30 g31
   obtain⟨y30,y31,hy3⟩:∃a b,vs3=[a,b]:=by
    match vs3,hvl3 with
    | [a,b],_=>exact⟨a,b,rfl⟩
   rw[hy3] at g30 g31
   obtain⟨la,e30,_,_⟩:=DataW.trod_int Tryz.underlying2 (show DataW.trod enc Tryz.prog w base (fun _=>true) held m3 2 [c3]=some y30 from g30)
   obtain⟨lo,e31,_,_⟩:=DataW.trod_int Tryz.underlying2 (show DataW.trod enc Tryz.prog w base (fun _=>true) held m3 2 [c4]=some y31 from g31)
   obtain⟨el,e4,_,_⟩:=DataW.trod_int Tryz.underlying2 (show DataW.trod enc Tryz.prog w base (fun _=>true) held n 2 [c5]=some z4 from h4)
   obtain⟨ra,e5,_,_⟩:=DataW.trod_int Tryz.underlying2 (show DataW.trod enc Tryz.prog w base (fun _=>true) held n 2 [c6]=some z5 from h5)
   obtain rfl:c0=.string id:=by simpa using e0
   obtain rfl:c1=.string rg:=by simpa using e1
   obtain rfl:c2=.int .u8 kd:=by simpa using e2
   obtain rfl:c3=.int .i64 la:=by simpa using e30
   obtain rfl:c4=.int .i64 lo:=by simpa using e31
   obtain rfl:c5=.int .i64 el:=by simpa using e4
   obtain rfl:c6=.int .i64 ra:=by simpa using e5
   have u_kd:0≤kd∧kd<256:=u8_bd g_kd
   refine⟨⟨bl id,bl rg,kd.toNat,la,lo,el,ra⟩,?_,w_id,w_rg,by show kd.toNat<256;omega⟩
   unfold fxc
   rw[sb_bl,sb_bl,show((kd.toNat:Nat):Int)=kd by omega]
theorem fxc_len (l:Fx):(fxc l).length=7:=rfl
theorem open_fixesD {fuel:Nat} {v:Value} {x:DataW H × List MemPlace} (h:DataW.trod enc Tryz.prog w base (fun _=>true) held fuel 26 [v]=some x):∃l,FxsD w v l :=
 open_listD fxc FxOk Tryz.underlying26 db_cApiFix (by decide) fxc_len (fun n cs y hy=>open_fixD hy) h
theorem db_cApiHeader:Tryz.prog.cellsOf 25=6:=by kernel_rfl
set_option maxRecDepth 100000 in
theorem open_headD {fuel:Nat} {cs:List Value} {x:DataW H × List MemPlace} (h:DataW.trod enc Tryz.prog w base (fun _=>true) held fuel 25 cs=some x):∃h:ImHd,cs=hdD h∧h.nm.length≤maxLen:=by
 obtain⟨ys,n,_,_,hl,hyl,hf⟩:=DataW.trod_struct Tryz.underlying25 h
 rw[db_cApiHeader] at hl
 match cs,hl with
 | [c0,c1,c2,c3,c4,c5],_ =>
  have h0:DataW.trod enc Tryz.prog w base (fun _=>true) held n 9 (([c0,c1,c2,c3,c4,c5].drop 0).take (Tryz.prog.cellsOf 9))=ys[0]? := hf 0 _ rfl
  rw[db_cString] at h0
  have h1:DataW.trod enc Tryz.prog w base (fun _=>true) held n 2 (([c0,c1,c2,c3,c4,c5].drop 1).take (Tryz.prog.cellsOf 2))=ys[1]? := hf 1 _ rfl
  rw[db_cI64] at h1
  have h2:DataW.trod enc Tryz.prog w base (fun _=>true) held n 2 (([c0,c1,c2,c3,c4,c5].drop 2).take (Tryz.prog.cellsOf 2))=ys[2]? := hf 2 _ rfl
  rw[db_cI64] at h2
  have h3:DataW.trod enc Tryz.prog w base (fun _=>true) held n 2 (([c0,c1,c2,c3,c4,c5].drop 3).take (Tryz.prog.cellsOf 2))=ys[3]? := hf 3 _ rfl
  rw[db_cI64] at h3
  have h4:DataW.trod enc Tryz.prog w base (fun _=>true) held n 23 (([c0,c1,c2,c3,c4,c5].drop 4).take (Tryz.prog.cellsOf 23))=ys[4]? := hf 4 _ rfl
  rw[db_cPos] at h4
  match ys,hyl with
  | [z0,z1,z2,z3,z4],_ =>
   obtain⟨nm,e0,_,w_nm⟩:=DataW.trod_string Tryz.underlying9 (show DataW.trod enc Tryz.prog w base (fun _=>true) held n 9 [c0]=some z0 from h0)
   obtain⟨cy,e1,_,_⟩:=DataW.trod_int Tryz.underlying2 (show DataW.trod enc Tryz.prog w base (fun _=>true) held n 2 [c1]=some z1 from h1)
   obtain⟨fr,e2,_,_⟩:=DataW.trod_int Tryz.underlying2 (show DataW.trod enc Tryz.prog w base (fun _=>true) held n 2 [c2]=some z2 from h2)
   obtain⟨tu,e3,_,_⟩:=DataW.trod_int Tryz.underlying2 (show DataW.trod enc Tryz.prog w base (fun _=>true) held n 2 [c3]=some z3 from h3)
   obtain⟨vs4,m4,_,_,_,hvl4,hg4⟩:=DataW.trod_struct Tryz.underlying23 (show DataW.trod enc Tryz.prog w base (fun _=>true) held n 23 [c4,c5]=some z4 from h4)
   have g40:DataW.trod enc Tryz.prog w base (fun _=>true) held m4 2 (([c4,c5].drop 0).take (Tryz.prog.cellsOf 2))=vs4[0]? := hg4 0 _ rfl
   have g41:DataW.trod enc Tryz.prog w base (fun _=>true) held m4 2 (([c4,c5].drop 1).take (Tryz.prog.cellsOf 2))=vs4[1]? := hg4 1 _ rfl
   rw[db_cI64] at g40 g41
   obtain⟨y40,y41,hy4⟩:∃a b,vs4=[a,b]:=by
    match vs4,hvl4 with
    | [a,b],_=>exact⟨a,b,rfl⟩
   rw[hy4] at g40 g41
   obtain⟨la,e40,_,_⟩:=DataW.trod_int Tryz.underlying2 (show DataW.trod enc Tryz.prog w base (fun _=>true) held m4 2 [c4]=some y40 from g40)
   obtain⟨lo,e41,_,_⟩:=DataW.trod_int Tryz.underlying2 (show DataW.trod enc Tryz.prog w base (fun _=>true) held m4 2 [c5]=some y41 from g41)
   obtain rfl:c0=.string nm:=by simpa using e0
   obtain rfl:c1=.int .i64 cy:=by simpa using e1
   obtain rfl:c2=.int .i64 fr:=by simpa using e2
   obtain rfl:c3=.int .i64 tu:=by simpa using e3
   obtain rfl:c4=.int .i64 la:=by simpa using e40
   obtain rfl:c5=.int .i64 lo:=by simpa using e41
   refine⟨⟨bl nm,cy,fr,tu,la,lo⟩,?_,w_nm⟩
   unfold hdD
   simp only[sb_bl]
theorem db_cSlApiFix:Tryz.prog.cellsOf 26=1:=by kernel_rfl
theorem db_cSlApiAirway:Tryz.prog.cellsOf 27=1:=by kernel_rfl
theorem db_cSlApiProcedure:Tryz.prog.cellsOf 28=1:=by kernel_rfl
theorem db_cApiDb:Tryz.prog.cellsOf 30=9:=by kernel_rfl
set_option maxRecDepth 100000 in
theorem open_db {fuel:Nat} {cs:List Value} {x:DataW H × List MemPlace} (h:DataW.trod enc Tryz.prog w base (fun _=>true) held fuel 30 cs=some x):∃(D:DbD) (f a p:Value),cs=dbC D.hd f a p∧DbV w f a p D:=by
 obtain⟨ys,n,_,_,hl,hyl,hf⟩:=DataW.trod_struct Tryz.underlying30 h
 rw[db_cApiDb] at hl
 match cs,hl with
 | [c0,c1,c2,c3,c4,c5,c6,c7,c8],_ =>
  have h0:DataW.trod enc Tryz.prog w base (fun _=>true) held n 25 (([c0,c1,c2,c3,c4,c5,c6,c7,c8].drop 0).take (Tryz.prog.cellsOf 25))=ys[0]? := hf 0 _ rfl
  rw[db_cApiHeader] at h0
  have h1:DataW.trod enc Tryz.prog w base (fun _=>true) held n 26 (([c0,c1,c2,c3,c4,c5,c6,c7,c8].drop 6).take (Tryz.prog.cellsOf 26))=ys[1]? := hf 1 _ rfl
  rw[db_cSlApiFix] at h1
  have h2:DataW.trod enc Tryz.prog w base (fun _=>true) held n 27 (([c0,c1,c2,c3,c4,c5,c6,c7,c8].drop 7).take (Tryz.prog.cellsOf 27))=ys[2]? := hf 2 _ rfl
  rw[db_cSlApiAirway] at h2
  have h3:DataW.trod enc Tryz.prog w base (fun _=>true) held n 28 (([c0,c1,c2,c3,c4,c5,c6,c7,c8].drop 8).take (Tryz.prog.cellsOf 28))=ys[3]? := hf 3 _ rfl
  rw[db_cSlApiProcedure] at h3
  match ys,hyl with
  | [z0,z1,z2,z3],_ =>
   obtain⟨hd,ehd,w_hd⟩:=open_headD (show DataW.trod enc Tryz.prog w base (fun _=>true) held n 25 [c0,c1,c2,c3,c4,c5]=some z0 from h0)
   obtain⟨fx,w_fx⟩:=open_fixesD (show DataW.trod enc Tryz.prog w base (fun _=>true) held n 26 [c6]=some z1 from h1)
   obtain⟨aw,w_aw⟩:=open_airsD (show DataW.trod enc Tryz.prog w base (fun _=>true) held n 27 [c7]=some z2 from h2)
   obtain⟨pr,w_pr⟩:=open_procs (show DataW.trod enc Tryz.prog w base (fun _=>true) held n 28 [c8]=some z3 from h3)
   refine⟨⟨hd,fx,aw,pr⟩,c6,c7,c8,?_,w_hd,w_fx,w_aw,w_pr⟩
   have e:=congrArg (fun l=>l++[c6,c7,c8]) ehd
   simpa [hdD,dbC] using e
end
end Go.Proofs.YtgmehlgfilpleaaGreatDoor
