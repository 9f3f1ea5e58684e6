/-
  Several texts as one.
-/
import Derived.Test.YtgmehlgfilpleaaGreatDoorMG05
import Derived.Test.YtgmehlgfilpleaaGreatDoorMG07
import Derived.Test.YtgmehlgfilpleaaGreatDoorNwW
import Derived.Test.YtgmehlgfilpleaaGreatDoorNwS
import Derived.Test.YtgmehlgfilpleaaGreatDoorMG01
import Derived.Test.YtgmehlgfilpleaaGreatDoorMG20
import Derived.Test.YtgmehlgfilpleaaGreatDoorCkP
import Derived.Test.YtgmehlgfilpleaaGreatDoorMG22
import Derived.Test.YtgmehlgfilpleaaGreatDoorMG09
namespace Go.Proofs.YtgmehlgfilpleaaGreatDoor
open Go.RowKit
set_option linter.unusedVariables false
set_option linter.unusedSimpArgs false

theorem StrPost.size {l:List UInt8} {t:ByteArray} (h:bl t=l):t.size=l.length:=by rw[←bl_len,h]
def AngTPost (l:List UInt8) (er:Int) (w:World) (e:Ending) (w':World):Prop:=∃t:ByteArray,e=.returned (.tuple #[.string t,.int .i64 er])∧Hid (bl t=l)∧Below w.heap.size w w'
set_option maxHeartbeats 1000000 in
theorem latText_any (a:Int) (w:World):Calls Tryz.prog 170 #[.int .i64 a] w (AngTPost (latOut a) (if latB a then 0 else 2) w):=by
 cases h:latB a
 ·have HO:Hid (latOut a=[]):=by unfold Hid latOut;rw[h];rfl
  have H:=Lib.hid h
  clear h
  go_enter Tryz.func170,Tryz.ntmps170
  go_wp2_with fail
  refine(isLat_any a _).mono ?_
  rintro e w1 ⟨rfl,rfl⟩
  rw[H.out]
  go_wp2
  go_ret2
  exact⟨_,rfl,HO.out.symm ▸ rfl,Below.refl _ _⟩
 ·have hb:=h
  unfold latB at hb
  rw[Bool.and_eq_true,decide_eq_true_iff,decide_eq_true_iff] at hb
  have hnb:a.natAbs<1000000000:=by omega
  have HO:Hid (latOut a=sgnText a 78 83 2):=by unfold Hid latOut;rw[h];rfl
  have H:=Lib.hid h
  clear h hb
  go_enter Tryz.func170,Tryz.ntmps170
  go_wp2_with fail
  refine(isLat_any a _).mono ?_
  rintro e w1 ⟨rfl,rfl⟩
  rw[H.out]
  go_wp2_with fail
  refine(signed_any a 78 83 2 _ (by omega) (by omega) hnb).mono ?_
  rintro e w1 ⟨t,rfl,ht,hb⟩
  go_wp2
  go_ret2
  exact⟨t,rfl,by unfold Hid;rw[HO.out];exact ht.out,hb⟩
set_option maxHeartbeats 1000000 in
theorem lonText_any (a:Int) (w:World):Calls Tryz.prog 171 #[.int .i64 a] w (AngTPost (lonOut a) (if lonB a then 0 else 2) w):=by
 cases h:lonB a
 ·have HO:Hid (lonOut a=[]):=by unfold Hid lonOut;rw[h];rfl
  have H:=Lib.hid h
  clear h
  go_enter Tryz.func171,Tryz.ntmps171
  go_wp2_with fail
  refine(isLon_any a _).mono ?_
  rintro e w1 ⟨rfl,rfl⟩
  rw[H.out]
  go_wp2
  go_ret2
  exact⟨_,rfl,HO.out.symm ▸ rfl,Below.refl _ _⟩
 ·have hb:=h
  unfold lonB at hb
  rw[Bool.and_eq_true,decide_eq_true_iff,decide_eq_true_iff] at hb
  have hnb:a.natAbs<1000000000:=by omega
  have HO:Hid (lonOut a=sgnText a 69 87 3):=by unfold Hid lonOut;rw[h];rfl
  have H:=Lib.hid h
  clear h hb
  go_enter Tryz.func171,Tryz.ntmps171
  go_wp2_with fail
  refine(isLon_any a _).mono ?_
  rintro e w1 ⟨rfl,rfl⟩
  rw[H.out]
  go_wp2_with fail
  refine(signed_any a 69 87 3 _ (by omega) (by omega) hnb).mono ?_
  rintro e w1 ⟨t,rfl,ht,hb⟩
  go_wp2
  go_ret2
  exact⟨t,rfl,by unfold Hid;rw[HO.out];exact ht.out,hb⟩

set_option maxHeartbeats 1000000 in
theorem posText_any (a b:Int) (w:World):Calls Tryz.prog 106 #[.agg #[.int .i64 a,.int .i64 b]] w (AngTPost (posOut a b) (posErr a b) w):=by
 have HOK:Hid (posB a b=true→posOut a b=latOut a++lonOut b∧posErr a b=0):=by
  intro h;unfold posOut posErr;rw[if_pos h,if_pos h];exact⟨rfl,rfl⟩
 have HNO:Hid (posB a b=false→posOut a b=[]∧posErr a b=2):=by
  intro h;unfold posOut posErr;rw[h];exact⟨rfl,rfl⟩
 have HFOK:Hid (posB a b=true→∀(t u:ByteArray) w',bl t=latOut a→bl u=lonOut b→Below w.heap.size w w'→AngTPost (posOut a b) (posErr a b) w (.returned (.tuple #[.string (t++u),.int .i64 0])) w'):=by
  intro h t u w' ht hu hb;refine⟨_,by rw[(HOK.out h).2],?_,hb⟩;unfold Hid;rw[(HOK.out h).1,bl_append,ht,hu]
 have HFNO:Hid (posB a b=false→∀w',Below w.heap.size w w'→AngTPost (posOut a b) (posErr a b) w (.returned (.tuple #[.string ⟨#[]⟩,.int .i64 2])) w'):=by
  intro h w' hb;refine⟨_,by rw[(HNO.out h).2],?_,hb⟩;unfold Hid;rw[(HNO.out h).1];rfl
 have l1:(latOut a).length≤9:=by unfold latOut;split <;> first|(rw[sgnText_len];omega)|simp
 have l2:(lonOut b).length≤10:=by unfold lonOut;split <;> first|(rw[sgnText_len];omega)|simp
 cases h1:latB a <;> cases h2:lonB b
 all_goals
  have H1:=Lib.hid h1
  have H2:=Lib.hid h2
  clear h1 h2
  go_enter Tryz.func106,Tryz.ntmps106
  go_wp2_with fail
  refine(latText_any a _).mono ?_
  rintro e w1 ⟨t,rfl,ht,hb1⟩
  rw[H1.out]
  have c1:w1.cell? ⟨w.heap.size,1,none⟩=some (.int .i64 b):=(hb1.cell (p:=⟨w.heap.size,1,none⟩) (by simp)).trans (by simp[go_sem])
  have z1:w.heap.size<w1.heap.size:=by have:=hb1.size;simp at this;omega
  have hts:t.size≤9:=by rw[StrPost.size ht.out];exact l1
  go_wp2_with fail
  refine(lonText_any b _).mono ?_
  rintro e w2 ⟨u,rfl,hu,hb2⟩
  rw[H2.out]
  have hus:u.size≤10:=by rw[StrPost.size hu.out];exact l2
  have HB:=Lib.hid ((((Below.refl w.heap.size w).alloc (Nat.le_refl _) (.cells #[.int .i64 a,.int .i64 b] 23)).trans (hb1.mono (by simp))).trans (hb2.mono (by omega)))
  clear hb1 hb2 c1 z1
  go_wp2
  go_ret2
  first
   | exact HFOK.out (by unfold posB;rw[H1.out,H2.out];rfl) _ _ _ ht.out hu.out HB.out
   | exact HFNO.out (by unfold posB;rw[H1.out,H2.out];rfl) _ HB.out
end Go.Proofs.YtgmehlgfilpleaaGreatDoor
namespace Go.Proofs.YtgmehlgfilpleaaGreatDoor
open Go.RowKit Go.Lib Go.Sort
set_option linter.unusedVariables false
set_option linter.unusedSimpArgs false
theorem HdOk.fail {s:Cp} (h:HdOk s) (x:Ln) (e:Int):HdOk (s.fail x e):=by unfold Cp.fail;split <;> exact h
theorem HdOk.thP {s:Cp} (all:List Fx):∀(l:List Pt) (v:List Ln) {s:Cp},HdOk s→HdOk (thP all l v s)
 | [],v,s,h=>by rw[thP_nil];exact h
 | q::r,[],s,h=>h
 | q::r,v::vs,s,h=>by
  show HdOk (Go.Proofs.YtgmehlgfilpleaaGreatDoor.thP all r vs (if q.ref∈all.map fxRef then s else s.fail v 6))
  split
  ·exact HdOk.thP (s:=s) all r vs h
  ·exact HdOk.thP (s:=s) all r vs (h.fail _ _)
theorem HdOk.thGo (all:List Fx):∀(l:List El) (nf na:Nat) (bf:List Fx) (ns:List (List UInt8)) {s:Cp},HdOk s→HdOk (thGo all nf na bf ns s l)
 | [],_,_,_,_,s,h=>h
 | p::r,nf,na,bf,ns,s,h=>by
  unfold Go.Proofs.YtgmehlgfilpleaaGreatDoor.thGo
  split
  ·exact HdOk.thGo all r _ _ _ _ (h.fail _ _)
  ·exact HdOk.thGo all r _ _ _ _ (HdOk.thP (s:=s) all _ _ (h.fail _ _))
theorem HdOk.step {s:Cp} (h:HdOk s) (x:Ln) (r:List Ln):HdOk (secStep s x r):=by
 unfold secStep;split <;> exact h
theorem HdOk.secGo:∀(l:List Ln) {s:Cp},HdOk s→HdOk (secGo s l)
 | [],s,h=>h
 | x::r,s,h=>by
  show HdOk (Go.Proofs.YtgmehlgfilpleaaGreatDoor.secGo (secStep s x r) r)
  exact HdOk.secGo r (h.step x r)
theorem secGo_bad:∀(l:List Ln) (s:Cp),(secGo s l).bad=s.bad
 | [],s=>rfl
 | x::r,s=>by
  show(secGo (secStep s x r) r).bad=_
  rw[secGo_bad r]
  unfold secStep;split <;> rfl
theorem thGo_all (all:List Fx):∀(l:List El) (nf na:Nat) (bf:List Fx) (ns:List (List UInt8)) (s:Cp),(thGo all nf na bf ns s l).all=s.all
 | [],_,_,_,_,s=>rfl
 | p::r,nf,na,bf,ns,s=>by
  unfold thGo
  split
  ·rw[thGo_all all r];exact fail_all _ _ _
  ·rw[thGo_all all r,thP_all];exact fail_all _ _ _
theorem rd_take {w:World} {size n c:Nat} {A:Option Addr} {xs:List Value} (h:Rd w size (.slice A n c) n xs) {m:Nat} (hm:m≤n):Rd w size (.slice A m c) m (xs.take (m*size)):=by
 obtain⟨hl,A',c',hv,hc,hcm,hr⟩:=h
 simp only[Value.slice.injEq,true_and] at hv
 obtain⟨rfl,rfl⟩:=hv
 refine⟨by rw[List.length_take,hl];exact Nat.min_eq_left (Nat.mul_le_mul_right _ hm),A,c,rfl,by omega,hcm,fun h0 => ?_⟩
 obtain⟨g,o,hA,hg,hx⟩:=hr (by omega)
 refine⟨g,o,hA,hg,fun j u hu=>hx j u ?_⟩
 rw[List.getElem?_take] at hu
 split at hu
 ·exact hu
 ·cases hu
theorem dicells_take:∀(l:List DgI) (m:Nat),dicells (l.take m)=(dicells l).take (m*3)
 | [],m=>by simp[dicells]
 | d::l,0=>by simp[dicells]
 | d::l,m+1=>by
  have e:dicells (d::l)=.int .i64 d.1 :: .int .i64 d.2.1 :: .int .i64 d.2.2::dicells l:=rfl
  rw[List.take_succ_cons,e,show(m+1)*3=m*3+1+1+1 by omega,List.take_succ_cons,List.take_succ_cons,List.take_succ_cons,←dicells_take l m];rfl
theorem own_set9 {base:Nat} {w:World} {e:TypeId} {size n:Nat} {v:Value} {xs:List Value} (h:w.ownsRow base e size v n xs) {b:Nat} (hb:b<base) (y0 y1 y2 y3 y4 y5 y6 y7 y8:Value) :
  ((((((((((w.setCell ⟨b,0,none⟩ y0).setCell ⟨b,1,none⟩ y1).setCell ⟨b,2,none⟩ y2).setCell ⟨b,3,none⟩ y3).setCell ⟨b,4,none⟩ y4).setCell ⟨b,5,none⟩ y5).setCell ⟨b,6,none⟩ y6).setCell ⟨b,7,none⟩ y7).setCell ⟨b,8,none⟩ y8)).ownsRow base e size v n xs :=
 own_set (own_set (own_set (own_set (own_set (own_set (own_set (own_set (own_set h hb _) hb _) hb _) hb _) hb _) hb _) hb _) hb _) hb _
theorem recs_pos:∀(ls:List (List UInt8)) (n:Nat),∀r∈recsL n ls,0<r.2.length
 | [],n,r,h=>by cases h
 | l::ls,n,r,h=>by
  unfold recsL at h
  split at h
  ·rename_i hr
   rcases List.mem_cons.1 h with rfl|h
   ·unfold isRec at hr
    rw[Bool.and_eq_true,Bool.not_eq_true',List.isEmpty_eq_false_iff] at hr
    exact List.length_pos_iff.2 hr.2
   ·exact recs_pos ls _ r h
  ·exact recs_pos ls _ r h
theorem readRecs_pos (s:List UInt8):∀r∈readRecs s,0<r.2.length:=by
 unfold readRecs
 split
 ·intro r h;cases h
 ·exact recs_pos _ _
def dbZ:Array Value := #[.string ⟨#[]⟩,.int .i64 0,.int .i64 0,.int .i64 0,.int .i64 0,.int .i64 0,.slice none 0 0,.slice none 0 0,.slice none 0 0]
def dbH (v:Value):Array Value := #[.string ⟨#[87,69,83,84]⟩,.int .i64 2612,.int .i64 9826,.int .i64 9854,.int .i64 16560000,.int .i64 (-43200000),v,.slice none 0 0,.slice none 0 0]
def CompPost (T:Cp) (w:World) (e:Ending) (w':World):Prop :=
 (T.bad≠[]∧∃v,e=.returned (.tuple #[.agg dbZ,v])∧Rd w' 3 v (min T.bad.length 50) (dicells (T.bad.take 50))∧Below w.heap.size w w') ∨
 (T.bad=[]∧e=.returned (.tuple #[.agg (dbH (.slice none 0 0)),.slice none 0 0])∧Below w.heap.size w w')
set_option maxRecDepth 100000 in
set_option maxHeartbeats 16000000 in
theorem compile_any (s:ByteArray) (w:World) (E:Env w) (rest:List Ln) (hs:s.size≤maxLen) (hr:(readRecs (bl s)).map lnOf=(1,hdF)::rest) (hd:readDgs (bl s)=[]) (hN:rest.length≤1000) (hok:SecOk cp0.head rest)
  (hel:∀p∈(secGo cp0.head rest).all,ElOk p) (hgd:(thGo (fixesOf (secGo cp0.head rest).all) 0 0 [] [] (secGo cp0.head rest) (secGo cp0.head rest).all).bad=[]→(secGo cp0.head rest).all=[]) :
  Calls Tryz.prog 39 #[.string s] w (CompPost (thGo (fixesOf (secGo cp0.head rest).all) 0 0 [] [] (secGo cp0.head rest) (secGo cp0.head rest).all) w):=by
 obtain⟨S,hS⟩:∃S,secGo cp0.head rest=S:=⟨_,rfl⟩
 have hSb:S.bad=[]:=by rw[←hS,secGo_bad];rfl
 have hSh:HdOk S:=by rw[←hS];exact HdOk.secGo rest ⟨rfl,rfl,rfl,rfl,rfl,rfl⟩
 have hSl:S.all.length≤1000:=by rw[←hS];have:=sec_len cp0.head rest;simp only[show cp0.head.all.length=0 from rfl] at this;omega
 have HS2:=Lib.hid hS
 rw[hS] at hel hgd ⊢
 obtain⟨T,hT⟩:∃T,thGo (fixesOf S.all) 0 0 [] [] S S.all=T:=⟨_,rfl⟩
 have hTh:HdOk T:=by rw[←hT];exact HdOk.thGo _ _ _ _ _ _ hSh
 have hTa:T.all=S.all:=by rw[←hT,thGo_all]
 rw[hT] at hgd ⊢
 have HT:=Lib.hid hT
 have HSB:=Lib.hid hSb
 have HSH:=Lib.hid hSh
 have HTH:=Lib.hid hTh
 have HTA:=Lib.hid hTa
 have HEL:=Lib.hid hel
 have HGD:=Lib.hid hgd
 have HOK:=Lib.hid hok
 have HRD:=Lib.hid hr
 have HDD:=Lib.hid hd
 obtain⟨wq,hwq⟩:∃W,w.alloc (.cells dbZ 30)=W:=⟨_,rfl⟩
 have BQ:Hid (Below w.heap.size w wq):=by rw[←hwq];exact(Below.refl _ _).alloc (Nat.le_refl _) _
 have XQ:Hid (Bx w.heap.size dbZ 30 wq):=by rw[←hwq];exact Bx.last w _ _
 have EQ:=E.below BQ.out
 unfold dbZ at hwq
 have HWQ:=Lib.hid hwq
 clear hS hT hSb hSh hTh hTa hel hgd hok hr hd hwq
 go_enter Tryz.func39,Tryz.ntmps39
 go_wp2_with fail
 rw[HWQ.out]
 clear HWQ
 refine(read_any s _ EQ hs).mono ?_
 rintro e w1 ⟨v,d,rfl,hv,hdg,hb1⟩
 have HSM:=readRecs_small (bl s)
 have hln:=lns_of hv HSM.1
 rw[HRD.out] at hln
 rw[HDD.out] at hdg
 obtain⟨A,c,rfl,hc,hm⟩:=hln.form
 obtain⟨Ad,cd,rfl,hcd,_⟩:=hdg.1.form
 unfold maxLen at hm
 have HLN:=Lib.hid hln
 have B1:=Lib.hid (Below.then_ BQ.out hb1)
 have X1:=Lib.hid (XQ.out.via hb1)
 have E1:=E.below B1.out
 have HF1:Hid ((∀x∈rest,0<x.2.length)∧(∀x∈rest,x.2.length≤1000000000000)):=by
  have hm2:∀x∈rest,∃r∈readRecs (bl s),lnOf r=x:=fun x hx=>by
   have:x∈(readRecs (bl s)).map lnOf:=by rw[HRD.out];exact List.mem_cons_of_mem _ hx
   rw[List.mem_map] at this;exact this
  refine⟨fun x hx => ?_,fun x hx => ?_⟩
  ·obtain⟨r,hr,rfl⟩:=hm2 x hx
   have:=readRecs_pos (bl s) r hr
   show 0<(fldI r.2).length
   unfold fldI;rw[List.length_map];omega
  ·obtain⟨r,hr,rfl⟩:=hm2 x hx
   have:=(HSM.1 r hr).2
   show(fldI r.2).length≤_
   unfold fldI;rw[List.length_map];omega
 have hnl:((1,hdF)::rest).length=rest.length+1:=rfl
 obtain⟨n,hn⟩:∃n,((1,hdF)::rest).length=n:=⟨_,rfl⟩
 have hn0:(0:Int)<(n:Int)∧n≤1001:=by rw[←hn];omega
 obtain⟨hn0,hn1⟩:=hn0
 have hne:((n:Int) == 0)=false:=by rw[beq_eq_false_iff_ne];omega
 have HNN:=Lib.hid hn
 rw[hn] at hc
 rw[hn]
 simp only[List.length_nil]
 clear hv hdg hln hb1 BQ XQ EQ HSM hnl hn
 go_wp2_with fail
 obtain⟨w2,hw2⟩:∃W,(w1.alloc (.cells #[.slice A n c,.slice none 0 0,.string ⟨#[]⟩,.int .i64 0,.int .i64 0,.int .i64 0,.int .i64 0,.int .i64 0,.slice none 0 0,.bool false,.bool false,.bool false] 180)).alloc (.cells #[.func (.func 113) #[.pointer (some ⟨w1.heap.size,0,none⟩)] #[],.func (.func 114) #[.pointer (some ⟨w1.heap.size,0,none⟩)] #[]] 1)=W:=⟨_,rfl⟩
 rw[hw2]
 have B2:Hid (Below w1.heap.size w1 w2):=by rw[←hw2];exact((Below.refl _ _).alloc (Nat.le_refl _) _).alloc (by simp) _
 have hs2:w2.heap.size=w1.heap.size+1+1:=by rw[←hw2,World.size_alloc,World.size_alloc]
 have C2:Hid (CpW w1 w2.heap.size (.slice A n c) cp0 (.slice none 0 0) (.slice none 0 0) [] w2):=by
  refine⟨⟨?_,World.ownsRow_nil _ _ _ _,RdT.nil _ _ _,rfl,B2.out,by simp,by omega,Nat.le_refl _⟩,World.ownsRow_nil _ _ _ _⟩
  rw[←hw2];exact(Bx.last w1 _ _).grow _
 have Y2:Hid (Bx (w1.heap.size+1) #[.func (.func 113) #[.pointer (some ⟨w1.heap.size,0,none⟩)] #[],.func (.func 114) #[.pointer (some ⟨w1.heap.size,0,none⟩)] #[]] 1 w2):=by rw[←hw2];exact Bx.last2 w1 _ _ _
 have HLN2:Hid (LnsR w1 (.slice A n c) ((1,hdF)::rest)):=by have:=HLN.out;rw[HNN.out] at this;exact this
 have HS3:=Lib.hid hs2
 have hq1:w1.heap.size≠w1.heap.size+1:=by omega
 clear hw2 hs2 hne hn0
 go_loopw [37] (fun iv wr=>(iv=.int .i64 0∧Hid (wr=w2))∨(iv=.int .i64 1∧Hid (∃av L,CpW w1 w2.heap.size (.slice A n c) S (.slice none 0 0) av L wr∧Frm (SB w1 w2.heap.size) w2 wr))∨(iv=.int .i64 2∧Hid (T.bad=[]∧∃B' bv av L,CpR w1 B' (.slice A n c) T bv av L wr∧Frm (SB w1 w2.heap.size) w2 wr))) (fun iv _=>2-(RowKit.intOf iv).toNat)
 case atStart=>exact .inl ⟨rfl,rfl⟩
 case round =>
  rcases hrel with ⟨rfl,hw⟩|⟨rfl,hcp⟩|⟨rfl,hcp⟩
  ·obtain rfl:wr=w2:=hw.out
   have y0:=Bx.cell Y2.out 0 rfl
   simp only[List.getElem_toArray,List.getElem_cons_zero] at y0
   have y0l:=Bx.lt Y2.out
   have hsec:=second_any w1 wr.heap.size _ rest wr E1 HLN2.out HF1.out.1 HF1.out.2 hN C2.out HOK.out
   rw[HS2.out] at hsec
   have HSEC:=Lib.hid hsec
   clear hsec hw
   go_wp2_with fail
   refine HSEC.out.mono ?_
   rintro e w3 ⟨rfl,av,L,hc3,hf3⟩
   have k1:=hc3.r.bx.cell 1 (u:=.slice none 0 0) rfl
   have hl3:=hc3.r.lt
   have HP:Hid (∃av L,CpW w1 wr.heap.size (.slice A n c) S (.slice none 0 0) av L w3∧Frm (SB w1 wr.heap.size) wr w3):=⟨av,L,hc3,hf3⟩
   clear hc3 hf3 HSEC y0 y0l
   go_wp2
   go_roundw
   case rel=>exact .inr (.inl ⟨by first|rfl|go_num,HP⟩)
   case measure=>simp[RowKit.intOf]
  ·obtain⟨av,L,hcp1,hfr1⟩:=hcp.out
   have YR:Hid (Bx (w1.heap.size+1) #[.func (.func 113) #[.pointer (some ⟨w1.heap.size,0,none⟩)] #[],.func (.func 114) #[.pointer (some ⟨w1.heap.size,0,none⟩)] #[]] 1 wr) :=
    (hfr1.block _ (by rw[HS3.out];omega) (by rintro(h|h);omega;rw[HS3.out] at h;omega)).trans Y2.out
   have y1:=Bx.cell YR.out 1 rfl
   simp only[List.getElem_toArray,List.getElem_cons_succ,List.getElem_cons_zero] at y1
   have y1l:=Bx.lt YR.out
   have hth:=third_any w1 _ rest S av L wr E1 HLN2.out (hcp1.r.rebase hcp1.r.lt (Nat.le_refl _)) HSH.out HSB.out HEL.out hSl
   rw[HT.out] at hth
   have HTH3:=Lib.hid hth
   have HFR1:=Lib.hid hfr1
   clear hth hcp1 hfr1 hcp
   go_wp2_with fail
   refine HTH3.out.mono ?_
   rintro e w3 ⟨rfl,bv,hc3,hf3⟩
   have HC3:=Lib.hid hc3
   have HF3:Hid (Frm (SB w1 w2.heap.size) w2 w3):=HFR1.out.trans (hf3.mono fun k hk=>hk.elim .inl fun h=>.inr (Nat.le_trans HFR1.out.size h))
   obtain⟨Ab,cb,hbv,hcb,hcbm⟩:=(Rd.of_own hc3.bad).form
   unfold maxLen at hcbm
   obtain⟨nb,hnb⟩:∃q,T.bad.length=q:=⟨_,rfl⟩
   rw[hnb] at hbv hcb
   have k1:=hc3.bx.cell 1 (u:=bv) rfl
   rw[hbv] at k1
   have hl3:=hc3.lt
   have HNB:=Lib.hid hnb
   have HBV:=Lib.hid hbv
   clear hc3 hf3 HTH3 y1 y1l hnb hbv YR
   rcases Nat.eq_zero_or_pos nb with h0|h0
   ·subst h0
    have HP:Hid (T.bad=[]∧∃B' bv av L,CpR w1 B' (.slice A n c) T bv av L w3∧Frm (SB w1 w2.heap.size) w2 w3):=⟨List.eq_nil_of_length_eq_zero HNB.out,_,_,_,_,HC3.out,HF3.out⟩
    go_wp2
    go_roundw
    case rel=>exact .inr (.inr ⟨by first|rfl|go_num,HP⟩)
    case measure=>simp[RowKit.intOf]
   ·have h0i:(0:Int)<(nb:Int):=by omega
    have hwl:w.heap.size<w1.heap.size:=Bx.lt X1.out
    have X3:Hid (Bx w.heap.size dbZ 30 w3):=(HF3.out.block _ (by rw[HS3.out];omega) (by rintro(h|h);omega;rw[HS3.out] at h;omega)).trans (X1.out.via B2.out)
    have B3:Hid (Below w.heap.size w w3):=(B1.out.trans (B2.out.mono (by omega))).trans (HF3.out.below (by rw[HS3.out];omega) (fun k hk=>by rcases hk with rfl|hk;omega;rw[HS3.out] at hk;omega))
    have hwr:w2.heap.size≤wr.heap.size:=HFR1.out.size
    obtain⟨mm,hmm,hmm1,hmm2⟩:∃mm:Nat,min (nb:Int) 50=(mm:Int)∧mm=min nb 50∧mm≤nb:=⟨min nb 50,by omega,rfl,by omega⟩
    have hmc:mm≤cb:=by omega
    have HMM:=Lib.hid hmm1
    obtain⟨w5,hw5⟩:∃W,((((((((((w3.setCell ⟨w.heap.size,0,none⟩ (.string ⟨#[]⟩)).setCell ⟨w.heap.size,1,none⟩ (.int .i64 0)).setCell ⟨w.heap.size,2,none⟩ (.int .i64 0)).setCell ⟨w.heap.size,3,none⟩ (.int .i64 0)).setCell ⟨w.heap.size,4,none⟩ (.int .i64 0)).setCell ⟨w.heap.size,5,none⟩ (.int .i64 0)).setCell ⟨w.heap.size,6,none⟩ (.slice none 0 0)).setCell ⟨w.heap.size,7,none⟩ (.slice none 0 0)).setCell ⟨w.heap.size,8,none⟩ (.slice none 0 0)).drew)=W:=⟨_,rfl⟩
    have X5:Hid (Bx w.heap.size dbZ 30 w5):=by rw[←hw5];exact(Bx.set9 X3.out (.string ⟨#[]⟩) (.int .i64 0) (.int .i64 0) (.int .i64 0) (.int .i64 0) (.int .i64 0) (.slice none 0 0) (.slice none 0 0) (.slice none 0 0)).drew
    have B5:Hid (Below w.heap.size w w5):=by rw[←hw5];exact(bel_set9 B3.out (Nat.le_refl _) (.string ⟨#[]⟩) (.int .i64 0) (.int .i64 0) (.int .i64 0) (.int .i64 0) (.int .i64 0) (.slice none 0 0) (.slice none 0 0) (.slice none 0 0)).drew
    have HRB:Hid (Rd w5 3 (.slice Ab mm cb) mm (dicells (T.bad.take 50))):=by
     have h1:=Rd.of_own ((own_set9 HC3.out.bad (show w.heap.size<wr.heap.size by rw[HS3.out] at hwr;omega) (.string ⟨#[]⟩) (.int .i64 0) (.int .i64 0) (.int .i64 0) (.int .i64 0) (.int .i64 0) (.slice none 0 0) (.slice none 0 0) (.slice none 0 0)).drew)
     rw[hw5] at h1
     rw[HBV.out,HNB.out] at h1
     have h2:=rd_take h1 hmm2
     have h3:(dicells T.bad).take (mm*3)=dicells (T.bad.take 50):=by
      rw[←dicells_take]
      congr 1
      rw[HMM.out,←HNB.out]
      rcases Nat.le_total T.bad.length 50 with h|h
      ·rw[Nat.min_eq_left h,List.take_of_length_le (Nat.le_refl _),List.take_of_length_le h]
      ·rw[Nat.min_eq_right h]
     rw[h3] at h2
     exact h2
    have hne2:T.bad≠[]:=fun h=>by have:=HNB.out;rw[h] at this;simp at this;omega
    have HNE:=Lib.hid hne2
    have HW5:=Lib.hid hw5
    have hmt:((mm:Int)).toNat=mm:=by omega
    have hmci:(mm:Int)≤(cb:Int):=by omega
    have hmi0:(0:Int)≤(mm:Int):=by omega
    obtain⟨⟨x0,x1,x2,x3,x4,x5,x6,x7,x8⟩,f0,f1,f2,f3,f4,f5,f6,f7,f8⟩:=Bx.cells9 X3.out
    have xl:=Bx.lt X3.out
    have hqn:w.heap.size≠w1.heap.size:=by omega
    have hqn2:w1.heap.size≠w.heap.size:=by omega
    clear hmm1 hne2 hw5
    go_upto_region 12 with fail
    go_region
    rw[HW5.out]
    obtain⟨⟨z0,z1,z2,z3,z4,z5,z6,z7,z8⟩,_⟩:=Bx.cells9 X5.out
    clear x0 x1 x2 x3 x4 x5 x6 x7 x8 f0 f1 f2 f3 f4 f5 f6 f7 f8 HW5 k1 hmm hmt
    go_wp2
    refine bodyPost_ret (v:=.tuple #[.agg dbZ,.slice Ab mm cb]) (by unfold dbZ;simp[results,Tryz.results39,go_sem,z0,z1,z2,z3,z4,z5,z6,z7,z8]) rfl ?_
    exact .inl ⟨HNE.out,_,rfl,by rw[show min T.bad.length 50=mm by rw[HNB.out];exact HMM.out.symm];exact HRB.out,B5.out⟩
  ·obtain⟨hTb,B',bv,av,L,hcp1,hfr1⟩:=hcp.out
   have HTB:=Lib.hid hTb
   have HCP:=Lib.hid hcp1
   have hwl:w.heap.size<w1.heap.size:=Bx.lt X1.out
   have HFR:=Lib.hid hfr1
   have X3:Hid (Bx w.heap.size dbZ 30 wr):=(hfr1.block _ (by rw[HS3.out];omega) (by rintro(h|h);omega;rw[HS3.out] at h;omega)).trans (X1.out.via B2.out)
   have B3:Hid (Below w.heap.size w wr):=(B1.out.trans (B2.out.mono (by omega))).trans (hfr1.below (by rw[HS3.out];omega) (fun k hk=>by rcases hk with rfl|hk;omega;rw[HS3.out] at hk;omega))
   have hall:T.all=[]:=HTA.out.trans (HGD.out hTb)
   have k2:=hcp1.bx.cell 2 (u:=.string (sb T.nm)) rfl
   have k3:=hcp1.bx.cell 3 (u:=.int .i64 T.cy) rfl
   have k4:=hcp1.bx.cell 4 (u:=.int .i64 T.fr) rfl
   have k5:=hcp1.bx.cell 5 (u:=.int .i64 T.tu) rfl
   have k6:=hcp1.bx.cell 6 (u:=.int .i64 T.la) rfl
   have k7:=hcp1.bx.cell 7 (u:=.int .i64 T.lo) rfl
   rw[HTH.out.1] at k2
   rw[HTH.out.2.1] at k3
   rw[HTH.out.2.2.1] at k4
   rw[HTH.out.2.2.2.1] at k5
   rw[HTH.out.2.2.2.2.1] at k6
   rw[HTH.out.2.2.2.2.2] at k7
   replace k2:wr.cell? ⟨w1.heap.size,2,none⟩=some (.string ⟨#[87,69,83,84]⟩):=k2
   obtain⟨-,Aa,ca,hav,hca,hcam,-⟩:=hcp1.all.1
   unfold maxLen at hcam
   obtain⟨m,hm2⟩:∃q,T.all.length=q:=⟨_,rfl⟩
   rw[hm2] at hav hca
   obtain rfl:m=0:=by rw[←hm2,hall];rfl
   have k8:=hcp1.bx.cell 8 (u:=av) rfl
   rw[hav] at k8
   have hwl1:=hcp1.lt
   obtain⟨q9,hq9⟩:∃q,wr.heap.size=q:=⟨_,rfl⟩
   obtain⟨w9,hw9⟩:∃W,wr.alloc (.cells (dbH (.slice none 0 0)) 30)=W:=⟨_,rfl⟩
   have B9:Hid (Below wr.heap.size wr w9):=by rw[←hw9];exact(Below.refl _ _).alloc (Nat.le_refl _) _
   have X9:Hid (Bx q9 (dbH (.slice none 0 0)) 30 w9):=by rw[←hw9,←hq9];exact Bx.last wr _ _
   have X39:=Lib.hid (X3.out.via B9.out)
   have HB9:Hid (Below w.heap.size w w9):=Below.then_ B3.out B9.out
   have hq9l:w1.heap.size<w9.heap.size:=Nat.lt_of_lt_of_le hwl1 B9.out.size
   have hq9n:w.heap.size<q9:=by rw[←hq9];omega
   unfold dbH at hw9
   have HW9:=Lib.hid hw9
   have k8':w9.cell? ⟨w1.heap.size,8,none⟩=some (.slice Aa 0 ca):=(B9.out.cell (p:=⟨w1.heap.size,8,none⟩) hwl1).trans k8
   have HQ9:=Lib.hid hq9
   clear hcp1 hfr1 hcp hTb hav hm2 hw9 hq9 hall
   go_upto_region 15 with fail
   rw[HW9.out,HQ9.out]
   clear k2 k3 k4 k5 k6 k7 k8 HW9
   go_wp2_with fail
   go_loopw [72] (fun iv wr2=>iv=.int .i64 0∧Hid (wr2=w9)) (fun iv _=>0)
   case atStart=>exact⟨rfl,rfl⟩
   case round =>
    obtain⟨rfl,hw⟩:=hrel
    obtain rfl:wr=w9:=hw.out
    have k6:=X9.out.cell 6 (u:=.slice none 0 0) rfl
    have kq:=Bx.lt X9.out
    clear hw
    go_wp2_with fail
    refine(sortZ_fix _).mono ?_
    rintro e w10 ⟨rfl,rfl⟩
    have n6:=X9.out.cell 6 (u:=.slice none 0 0) rfl
    have nf6:=X9.out.free 6
    obtain⟨w11,hw11⟩:∃W,w10.setCell ⟨q9,6,none⟩ (.slice none 0 0)=W:=⟨_,rfl⟩
    have XS:Hid (Bx q9 (dbH (.slice none 0 0)) 30 w11):=by rw[←hw11];exact X9.out.set 6 _
    have X3S:Hid (Bx w.heap.size dbZ 30 w11):=by rw[←hw11];exact(heap_setCell_other _ ⟨q9,6,none⟩ _ _ (by show w.heap.size≠q9;omega)).trans X39.out
    have HB11:Hid (Below w.heap.size w w11):=by rw[←hw11];exact HB9.out.setCell (by show w.heap.size≤q9;omega) _
    have HW11:=Lib.hid hw11
    clear hw11 k6
    go_upto_region 26 with fail
    rw[HW11.out]
    clear HW11 n6 nf6 kq
    obtain⟨⟨y0,y1,y2,y3,y4,y5,y6,y7,y8⟩,_⟩:=Bx.cells9 XS.out
    have yl:=Bx.lt XS.out
    go_wp2_with fail
    refine(stableZ_air none 0 _ _).mono ?_
    rintro e w12 ⟨rfl,rfl⟩
    go_wp2_with fail
    refine(stableZ_proc none 0 _ _).mono ?_
    rintro e w13 ⟨rfl,rfl⟩
    obtain⟨⟨x0,x1,x2,x3,x4,x5,x6,x7,x8⟩,f0,f1,f2,f3,f4,f5,f6,f7,f8⟩:=Bx.cells9 X3S.out
    have xl:=Bx.lt X3S.out
    obtain⟨w14,hw14⟩:∃W,(((((((((w13.setCell ⟨w.heap.size,0,none⟩ (.string ⟨#[87,69,83,84]⟩)).setCell ⟨w.heap.size,1,none⟩ (.int .i64 2612)).setCell ⟨w.heap.size,2,none⟩ (.int .i64 9826)).setCell ⟨w.heap.size,3,none⟩ (.int .i64 9854)).setCell ⟨w.heap.size,4,none⟩ (.int .i64 16560000)).setCell ⟨w.heap.size,5,none⟩ (.int .i64 (-43200000))).setCell ⟨w.heap.size,6,none⟩ (.slice none 0 0)).setCell ⟨w.heap.size,7,none⟩ (.slice none 0 0)).setCell ⟨w.heap.size,8,none⟩ (.slice none 0 0))=W:=⟨_,rfl⟩
    have X14:Hid (Bx w.heap.size (dbH (.slice none 0 0)) 30 w14):=by rw[←hw14];exact Bx.set9 X3S.out _ _ _ _ _ _ _ _ _
    have HB14:Hid (Below w.heap.size w w14):=by rw[←hw14];exact bel_set9 HB11.out (Nat.le_refl _) _ _ _ _ _ _ _ _ _
    have HW14:=Lib.hid hw14
    clear hw14
    go_wp2
    rw[HW14.out]
    obtain⟨⟨z0,z1,z2,z3,z4,z5,z6,z7,z8⟩,_⟩:=Bx.cells9 X14.out
    refine bodyPost_ret (v:=.tuple #[.agg (dbH (.slice none 0 0)),.slice none 0 0]) (by unfold dbH;simp[results,Tryz.results39,go_sem,z0,z1,z2,z3,z4,z5,z6,z7,z8]) rfl ?_
    exact .inr ⟨HTB.out,rfl,HB14.out⟩
theorem Rd.of_bx4 {w:World} {g:Nat} {a b c d:Value} {t:TypeId} (h:Bx g #[a,b,c,d] t w):Rd w 1 (.slice (some ⟨g,0,none⟩) 4 4) 4 [a,b,c,d] :=
 ⟨rfl,some ⟨g,0,none⟩,4,rfl,Nat.le_refl _,by unfold maxLen;omega,fun _=>⟨g,0,rfl,h.lt,fun j u hu=>by rw[Nat.zero_add];exact h.cell j (by simpa using hu)⟩⟩
theorem isBld_below {T e:TypeId} {B b:Nat} {bs:List Value} {w w':World} (h:Lib.IsBuilder T e B b bs w) (hb:Below w.heap.size w w'):Lib.IsBuilder T e B b bs w':=by
 have one:∀p,Lib.BuilderAt T e B b p bs w→Lib.BuilderAt T e B b p bs w':=by
  rintro p ⟨h1,v,h2,h3,h4⟩
  exact⟨h1,v,(hb.block b (heap_lt h2)).trans h2,own_below h3 hb,h4⟩
 rcases h with h|h
 ·exact .inl (one _ h)
 ·exact .inr (one _ h)
theorem bytes_str (s:ByteArray):Lib.strCells s=Lib.byteCells (bl s):=rfl
theorem bytes_len (a:List UInt8):(Lib.byteCells a).length=a.length:=by unfold Lib.byteCells;rw[List.length_map]
set_option maxRecDepth 100000 in
set_option maxHeartbeats 4000000 in
theorem tline_any (v:Value) (ts:List (List UInt8)) (B b:Nat) (bs:List UInt8) (w:World) (h:Rd w 1 v ts.length (scells ts)) (hb:Lib.IsBuilder 160 5 B b (Lib.byteCells bs) w) (hBw:B≤w.heap.size) (hn:ts.length≤1048576) (hsz:bs.length+(joinL ts).length+1≤1000000000) :
  Calls Tryz.prog 101 #[v,.pointer (some ⟨b,0,none⟩)] w fun e w'=>e=.returned (.tuple #[])∧Lib.IsBuilder 160 5 B b (Lib.byteCells (bs++(joinL ts++[10]))) w'∧Below B w w':=by
 have HB:=Lib.hid hb
 clear hb
 go_enter Tryz.func101,Tryz.ntmps101
 go_wp2_with fail
 refine(join_call v ts _ h (by omega) (by omega)).mono ?_
 rintro e w1 ⟨t,rfl,ht,hb1⟩
 have hts:t.size=(joinL ts).length:=by rw[←ht.out];rfl
 have hsz1:B≤w1.heap.size:=by have:=hb1.size;omega
 have HB1:=Lib.hid (isBld_below HB.out hb1)
 have D1:=Lib.hid (hb1.mono hBw)
 clear hb1
 go_wp2_with fail
 refine(Tryz.Builder_WriteString B b _ t _ HB1.out (by rw[bytes_len];omega) hsz1).mono ?_
 rintro e w2 ⟨rfl,hb2,hbl2⟩
 have D2:=Lib.hid (D1.out.trans hbl2)
 have hsz2:B≤w2.heap.size:=by have:=hbl2.size;omega
 have HB2:=Lib.hid hb2
 clear hb2 hbl2
 go_wp2_with fail
 refine(Tryz.Builder_WriteByte B b _ 10 _ (.inr HB2.out) (by rw[List.length_append,bytes_len,bytes_str,bytes_len,bl_len];omega) hsz2).mono ?_
 rintro e w3 ⟨rfl,hb3,hbl3⟩
 have HB3:=Lib.hid hb3
 have D3Z:=Lib.hid (D2.out.trans hbl3)
 clear hb3 hbl3
 go_wp2
 go_end0
 refine⟨rfl,?_,D3Z.out⟩
 have h:=HB3.out
 rw[bytes_str,ht.out,List.append_assoc] at h
 rw[byteCells_app,byteCells_app]
 exact .inr h
def hdrT:List UInt8:=joinL [[68,65,84,65,66,65,83,69],[87,69,83,84],cyc26,posOut 16560000 (-43200000)]++[10]
def db26:DbD:=⟨⟨[87,69,83,84],2612,9826,9854,16560000,-43200000⟩,[],[],[]⟩
theorem check_26 (w:World) (hT:LegT w):Calls Tryz.prog 10 #[.agg (dbH (.slice none 0 0))] w fun e w'=>e=.returned (.int .i64 0)∧Below w.heap.size w w':=by
 have h:=dbCheck_any db26 _ _ _ w hT ⟨by decide,⟨Rd.nil w 7,fun f h=>by cases h⟩,⟨[],rfl,Rd.nil w 2,fun x h=>by cases h⟩,⟨[],rfl,Rd.nil w 4,fun x h=>by cases h⟩⟩ ⟨fun f h=>(by cases h),fun f h=>(by cases h)⟩
 rw[show dbE db26=0 by decide +kernel,show(dbC db26.hd (.slice none 0 0) (.slice none 0 0) (.slice none 0 0)).toArray=dbH (.slice none 0 0) by rfl] at h
 exact h
set_option maxRecDepth 100000 in
set_option maxHeartbeats 8000000 in
theorem ntext_ex (w:World) (hT:LegT w) :
  Calls Tryz.prog 37 #[.agg (dbH (.slice none 0 0))] w fun e w'=>e=.returned (.tuple #[.string (sb hdrT),.int .i64 0])∧Below w.heap.size w w':=by
 obtain⟨w0,hw0⟩:∃W,w.alloc (.cells (dbH (.slice none 0 0)) 30)=W:=⟨_,rfl⟩
 have B0:Hid (Below w.heap.size w w0):=by rw[←hw0];exact(Below.refl _ _).alloc (Nat.le_refl _) _
 have X0:Hid (Bx w.heap.size (dbH (.slice none 0 0)) 30 w0):=by rw[←hw0];exact Bx.last w _ _
 obtain⟨⟨x0,x1,x2,x3,x4,x5,x6,x7,x8⟩,_⟩:=Bx.cells9 X0.out
 have xl:=Bx.lt X0.out
 have hck:=check_26
 have hcy:=cycleText_26
 have hlen:([]:List UInt8).length+(joinL [[68,65,84,65,66,65,83,69],[87,69,83,84],cyc26,posOut 16560000 (-43200000)]).length+1≤1000000000:=of_decide_eq_true (by kernel_rfl)
 unfold dbH at hw0 hck
 have HW0:=Lib.hid hw0
 clear hw0
 unfold dbH
 go_enter Tryz.func37,Tryz.ntmps37
 go_wp2_with fail
 rw[HW0.out]
 go_wp2_with fail
 refine(hck _ (hT.below B0.out)).mono ?_
 rintro e w1 ⟨rfl,hb1⟩
 have B1:=Lib.hid (Below.then_ B0.out hb1)
 have X1:=Lib.hid (X0.out.via hb1)
 clear x0 x1 x2 x3 x4 x5 x6 x7 x8 xl hb1 B0 X0 hck HW0
 obtain⟨b,hbq⟩:∃b,w1.heap.size=b:=⟨_,rfl⟩
 obtain⟨w2,hw2⟩:∃W,w1.alloc (.cells #[.pointer none,.slice none 0 0] 160)=W:=⟨_,rfl⟩
 have S2:Hid (Lib.IsBuilder 160 5 b b (Lib.byteCells []) w2):=by
  unfold Hid;rw[←hbq,←hw2];exact Lib.fresh_isBuilder _ _ w1
 have hb2:Below w1.heap.size w1 w2:=by rw[←hw2];exact(Below.refl _ _).alloc (Nat.le_refl _) _
 have B2:=Lib.hid (Below.then_ B1.out hb2)
 have X2:=Lib.hid (X1.out.via hb2)
 have L2:Hid (w.heap.size<b∧b≤w2.heap.size):=⟨by rw[←hbq];exact X1.out.lt,by rw[←hbq];exact hb2.size⟩
 obtain⟨⟨x0,x1,x2,x3,x4,x5,x6,x7,x8⟩,_⟩:=Bx.cells9 X2.out
 have xl:=Bx.lt X2.out
 have HW2:=Lib.hid hw2
 have HBQ:=Lib.hid hbq
 clear hb2 hw2 hbq B1 X1
 go_upto_region 5 with fail
 rw[HW2.out,HBQ.out]
 go_wp2_with fail
 refine(hcy _).mono ?_
 rintro e w3 ⟨rfl,hb3⟩
 have S3:=Lib.hid (isBld_below S2.out hb3)
 have B3:=Lib.hid (Below.then_ B2.out hb3)
 have X3:=Lib.hid (X2.out.via hb3)
 have L3:Hid (w.heap.size<b∧b≤w3.heap.size):=⟨L2.out.1,Nat.le_trans L2.out.2 hb3.size⟩
 clear x0 x1 x2 x3 x4 x5 x6 x7 x8 xl hb3 HW2 S2 B2 X2 L2 HBQ hcy
 obtain⟨⟨x0,x1,x2,x3,x4,x5,x6,x7,x8⟩,_⟩:=Bx.cells9 X3.out
 have xl:=Bx.lt X3.out
 go_wp2_with fail
 refine(posText_any 16560000 (-43200000) _).mono ?_
 rintro e w4 ⟨p,rfl,hp,hb4⟩
 have S4:=Lib.hid (isBld_below S3.out hb4)
 have B4:=Lib.hid (Below.then_ B3.out hb4)
 have X4:=Lib.hid (X3.out.via hb4)
 have L4:Hid (w.heap.size<b∧b≤w4.heap.size):=⟨L3.out.1,Nat.le_trans L3.out.2 hb4.size⟩
 have hpe:posErr 16560000 (-43200000)=0:=by kernel_rfl
 rw[hpe]
 clear x0 x1 x2 x3 x4 x5 x6 x7 x8 xl hb4 S3 B3 X3 L3 hpe
 obtain⟨⟨x0,x1,x2,x3,x4,x5,x6,x7,x8⟩,_⟩:=Bx.cells9 X4.out
 have xl:=Bx.lt X4.out
 have hps:p=sb (posOut 16560000 (-43200000)):=by rw[←hp.out];rfl
 subst hps
 obtain⟨w5,hw5⟩:∃W,w4.alloc (.cells #[.string ⟨#[68,65,84,65,66,65,83,69]⟩,.string ⟨#[87,69,83,84]⟩,.string (sb cyc26),.string (sb (posOut 16560000 (-43200000)))] 9)=W:=⟨_,rfl⟩
 have hb5:Below w4.heap.size w4 w5:=by rw[←hw5];exact(Below.refl _ _).alloc (Nat.le_refl _) _
 have R5:Hid (Rd w5 1 (.slice (some ⟨w4.heap.size,0,none⟩) 4 4) 4 (scells [[68,65,84,65,66,65,83,69],[87,69,83,84],cyc26,posOut 16560000 (-43200000)])):=by
  rw[←hw5];exact Rd.of_bx4 (Bx.last w4 _ _)
 have S5:=Lib.hid (isBld_below S4.out hb5)
 have B5:=Lib.hid (Below.then_ B4.out hb5)
 have X5:=Lib.hid (X4.out.via hb5)
 have L5:Hid (w.heap.size<b∧b≤w5.heap.size):=⟨L4.out.1,Nat.le_trans L4.out.2 hb5.size⟩
 have HW5:=Lib.hid hw5
 clear hb5 hw5 S4 B4 X4 L4 hp
 go_wp2_with fail
 rw[HW5.out]
 refine(tline_any _ [[68,65,84,65,66,65,83,69],[87,69,83,84],cyc26,posOut 16560000 (-43200000)] b b [] _ R5.out S5.out L5.out.2 (by simp) hlen).mono ?_
 rintro e w6 ⟨rfl,hs6,hb6⟩
 have S6:=Lib.hid hs6
 have B6:=Lib.hid (B5.out.trans (hb6.mono (by have:=L5.out.1;omega)))
 have X6:Hid (Bx w.heap.size (dbH (.slice none 0 0)) 30 w6):=(hb6.block _ L5.out.1).trans X5.out
 have L6:Hid (b≤w6.heap.size):=Nat.le_trans L5.out.2 hb6.size
 have L7:Hid (w.heap.size≤b):=Nat.le_of_lt L5.out.1
 rw[List.nil_append] at S6
 clear x0 x1 x2 x3 x4 x5 x6 x7 x8 xl hs6 hb6 S5 B5 X5 L5 R5 HW5
 obtain⟨⟨x0,x1,x2,x3,x4,x5,x6,x7,x8⟩,_⟩:=Bx.cells9 X6.out
 have xl:=Bx.lt X6.out
 go_wp2_with fail
 go_loopw [56] (fun iv wr=>iv=.int .i64 0∧wr=w6) (fun iv _=>0)
 case atStart=>exact⟨rfl,rfl⟩
 case round =>
  obtain⟨rfl,rfl⟩:=hrel
  go_wp2
  go_loopw [73] (fun iv wx=>iv=.int .i64 0∧wx=wr) (fun iv _=>0)
  case atStart=>exact⟨rfl,rfl⟩
  case round =>
   obtain⟨rfl,rfl⟩:=hrel
   go_wp2
   go_loopw [88] (fun iv wx=>iv=.int .i64 0∧wx=wr) (fun iv _=>0)
   case atStart=>exact⟨rfl,rfl⟩
   case round =>
    obtain⟨rfl,rfl⟩:=hrel
    go_wp2_with fail
    refine(Tryz.Builder_String_any b b hdrT wr S6.out L6.out).mono ?_
    rintro e w7 ⟨rfl,hb7⟩
    have B7:=Lib.hid (B6.out.trans (hb7.mono L7.out))
    clear x0 x1 x2 x3 x4 x5 x6 x7 x8 xl hb7
    go_wp2
    go_ret2
    exact⟨rfl,B7.out⟩
def hdrWs:List (List UInt8):=[[68,65,84,65,66,65,83,69],[87,69,83,84],cyc26,pos46]
def air1:List (List UInt8):=[[65,73,82,87,65,89],[86,49]]
def air2:List (List UInt8):=[[86,73,65],[65,47,75,49],[53,48,48,48,43],[66,79,84,72]]
def air3:List (List UInt8):=[[86,73,65],[66,47,75,49]]
def exS:ByteArray:=⟨#[68,65,84,65,66,65,83,69,32,87,69,83,84,32,50,54,49,50,32,78,52,54,48,48,48,48,48,48,87,49,50,48,48,48,48,48,48,48,10]⟩
def exA:ByteArray:=⟨#[65,73,82,87,65,89,32,86,49,10,86,73,65,32,65,47,75,49,32,53,48,48,48,43,32,66,79,84,72,10,86,73,65,32,66,47,75,49,10]⟩
theorem hdr_ok:WsOk hdrWs:=⟨by decide,by decide +kernel,by decide +kernel⟩
theorem air1_ok:WsOk air1:=⟨by decide,by decide +kernel,by decide +kernel⟩
theorem air2_ok:WsOk air2:=⟨by decide,by decide +kernel,by decide +kernel⟩
theorem air3_ok:WsOk air3:=⟨by decide,by decide +kernel,by decide +kernel⟩
theorem exS_join:bl exS=joinW [hdrWs]:=by decide +kernel
theorem exA_join:bl (exS++exA)=joinW [hdrWs,air1,air2,air3]:=by decide +kernel
theorem hdr_ln:∀n:Nat,lnOf (1,colsW 0 hdrWs)=((1,hdF):Ln):=fun _=>by decide +kernel
def rest2:List Ln:=[lnOf (2,colsW 0 air1),lnOf (3,colsW 0 air2),lnOf (4,colsW 0 air3)]
theorem exS_recs:(readRecs (bl exS)).map lnOf=(1,hdF)::[]∧readDgs (bl exS)=[]:=by
 have h:=read_joinW (W:=[hdrWs]) (fun ws h=>by simp at h;subst h;exact hdr_ok) (by decide)
 rw[exS_join,h.1]
 exact⟨by show[lnOf (1,colsW 0 hdrWs)]=_;rw[hdr_ln 0],h.2⟩
theorem exA_recs:(readRecs (bl (exS++exA))).map lnOf=(1,hdF)::rest2∧readDgs (bl (exS++exA))=[]:=by
 have h:=read_joinW (W:=[hdrWs,air1,air2,air3]) (fun ws h=>by simp at h;rcases h with rfl|rfl|rfl|rfl;exact hdr_ok;exact air1_ok;exact air2_ok;exact air3_ok) (by decide)
 rw[exA_join,h.1]
 exact⟨by show lnOf (1,colsW 0 hdrWs)::rest2=_;rw[hdr_ln 0],h.2⟩
theorem rest2_ok:SecOk cp0.head rest2 :=
 ⟨.air (by decide +kernel) (by decide +kernel),.via (by decide +kernel) (by decide +kernel),.via (by decide +kernel) (by decide +kernel),trivial⟩
theorem rest2_all:(secGo cp0.head rest2).all=[takeEl (lnOf (2,colsW 0 air1)) (viasL [lnOf (3,colsW 0 air2),lnOf (4,colsW 0 air3)])]:=by
 unfold rest2
 rw[secGo,step_air (by decide +kernel),secGo,step_via (by decide +kernel),secGo,step_via (by decide +kernel),secGo]
 rfl
theorem rest2_el:ElOk (takeEl (lnOf (2,colsW 0 air1)) (viasL [lnOf (3,colsW 0 air2),lnOf (4,colsW 0 air3)])) :=
 ⟨rfl,by decide +kernel,by decide +kernel,by decide +kernel⟩
theorem rest2_bad:(thGo (fixesOf (secGo cp0.head rest2).all) 0 0 [] [] (secGo cp0.head rest2) (secGo cp0.head rest2).all).bad=[(3,1,6),(4,1,6)]:=by decide +kernel
theorem compile_hdr (w:World) (E:Env w) :
  Calls Tryz.prog 39 #[.string exS] w fun e w'=>e=.returned (.tuple #[.agg (dbH (.slice none 0 0)),.slice none 0 0])∧Below w.heap.size w w':=by
 refine(compile_any exS w E [] (by decide +kernel) exS_recs.1 exS_recs.2 (by decide) trivial (fun p h=>by cases h) (fun _=>rfl)).mono ?_
 rintro e w' (⟨h,_⟩|⟨_,rfl,hb⟩)
 ·exact absurd rfl h
 ·exact⟨rfl,hb⟩
theorem compile_air (w:World) (E:Env w) :
  Calls Tryz.prog 39 #[.string (exS++exA)] w fun e w'=>∃v,e=.returned (.tuple #[.agg dbZ,v])∧Rd w' 3 v 2 [.int .i64 3,.int .i64 1,.int .i64 6,.int .i64 4,.int .i64 1,.int .i64 6]∧Below w.heap.size w w':=by
 refine(compile_any (exS++exA) w E rest2 (by decide +kernel) exA_recs.1 exA_recs.2 (by decide) rest2_ok (fun p h=>by rw[rest2_all] at h;simp at h;subst h;exact rest2_el) (fun h=>by rw[rest2_bad] at h;cases h)).mono ?_
 rw[show CompPost _ w=_ from rfl]
 rintro e w' (⟨h,v,rfl,hr,hb⟩|⟨h,_⟩)
 ·rw[rest2_bad] at hr
  exact⟨v,rfl,hr,hb⟩
 ·rw[rest2_bad] at h;cases h
theorem hdrT_eq:sb hdrT=exS:=by decide +kernel
set_option maxRecDepth 100000 in
set_option maxHeartbeats 8000000 in
theorem awake18_any (w:World) (E:Env w) (hT:LegT w) :
  Calls Tryz.prog 8 #[] w fun e w'=>e=.returned (.bool true)∧Below w.heap.size w w':=by
 have hc1:=compile_hdr w E
 have hc2:=fun W h=>compile_air W h
 have htx:=ntext_ex
 rw[hdrT_eq] at htx
 unfold exS exA dbZ at hc2
 unfold exS dbH at htx
 unfold exS dbH at hc1
 dsimp only at hc2 htx hc1
 have HC2:=Lib.hid hc2
 have HTX:=Lib.hid htx
 clear hc2 htx
 go_enter Tryz.func8,Tryz.ntmps8
 go_wp2_with fail
 refine hc1.mono ?_
 rintro e w1 ⟨rfl,hb1⟩
 clear hc1
 obtain⟨w2,hw2⟩:∃W,w1.alloc (.cells (dbH (.slice none 0 0)) 30)=W:=⟨_,rfl⟩
 have hb2:Below w1.heap.size w1 w2:=by rw[←hw2];exact(Below.refl _ _).alloc (Nat.le_refl _) _
 have B2:=Lib.hid (Below.then_ hb1 hb2)
 obtain⟨q,hq⟩:∃q,w1.heap.size=q:=⟨_,rfl⟩
 have X2:Hid (Bx q (dbH (.slice none 0 0)) 30 w2):=by rw[←hw2,←hq];exact Bx.last w1 _ _
 unfold dbH at hw2
 have HW2:=Lib.hid hw2
 have HQ:=Lib.hid hq
 obtain⟨⟨x0,x1,x2,x3,x4,x5,x6,x7,x8⟩,_⟩:=Bx.cells9 X2.out
 have xl:=Bx.lt X2.out
 clear hb1 hb2 hw2 hq
 go_upto_region 3 with fail
 rw[HW2.out,HQ.out]
 clear HW2 HQ
 go_wp2_with fail
 refine(HTX.out _ (hT.below B2.out)).mono ?_
 rintro e w3 ⟨rfl,hb3⟩
 have B3:=Lib.hid (Below.then_ B2.out hb3)
 have X3:=Lib.hid (X2.out.via hb3)
 clear x0 x1 x2 x3 x4 x5 x6 x7 x8 xl hb3 B2 X2 HTX
 go_wp2_with fail
 refine(HC2.out _ (E.below B3.out)).mono ?_
 rintro e w4 ⟨v2,rfl,hr4,hb4⟩
 have B4:=Lib.hid (Below.then_ B3.out hb4)
 have X4:=Lib.hid (X3.out.via hb4)
 clear hb4 B3 X3 HC2
 obtain⟨w5,hw5⟩:∃W,w4.alloc (.cells dbZ 30)=W:=⟨_,rfl⟩
 have hb5:Below w4.heap.size w4 w5:=by rw[←hw5];exact(Below.refl _ _).alloc (Nat.le_refl _) _
 have R5:=hr4.below hb5
 have B5:=Lib.hid (Below.then_ B4.out hb5)
 have X5:=Lib.hid (X4.out.via hb5)
 obtain⟨_,A,c,rfl,hc,hm,hx⟩:=R5
 obtain⟨g,o,rfl,hg,hcell⟩:=hx (by omega)
 have d0:=hcell 0 _ rfl
 have d1:=hcell 1 _ rfl
 have d2:=hcell 2 _ rfl
 have d3:=hcell 3 _ rfl
 have d4:=hcell 4 _ rfl
 have d5:=hcell 5 _ rfl
 rw[Nat.add_zero] at d0
 obtain⟨⟨x0,x1,x2,x3,x4,x5,x6,x7,x8⟩,_⟩:=Bx.cells9 X5.out
 have xl:=Bx.lt X5.out
 unfold dbZ at hw5
 have HW5:=Lib.hid hw5
 clear hr4 hb5 hw5 hcell hx B4 X4
 go_upto_region 5 with fail
 rw[HW5.out]
 clear HW5
 go_wp2
 go_ret
 exact⟨rfl,B5.out⟩
end Go.Proofs.YtgmehlgfilpleaaGreatDoor
