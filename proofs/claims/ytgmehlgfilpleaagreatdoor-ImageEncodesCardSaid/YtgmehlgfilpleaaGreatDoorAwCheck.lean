/-
  Contracts: the first error of an airway on both sides.
-/
import Derived.Test.YtgmehlgfilpleaaGreatDoorMG15
import Derived.Deep.RegionHeld3
import Derived.Deep.DeepCutAuto
import Derived.Deep.CutRange
namespace Go.Proofs.YtgmehlgfilpleaaGreatDoor
open Go.RowKit
set_option linter.unusedVariables false
set_option linter.unusedSimpArgs false

def winOk (lo hi:Int):Bool:=decide (-200000≤lo)&&decide (lo≤hi)&&decide (hi≤6000000)
def lastOk (p:Pt):Bool:=decide (p.lo = -200000)&&decide (p.hi=6000000)&&decide (p.dir=0)
def ptErr (l:List Pt) (p:Pt) (i:Nat):Int :=
 if refErr p.ref=0 then
  if idxOf l p.ref<i then 7
  else if i+1=l.length then (if lastOk p then 0 else 1)
  else if winOk p.lo p.hi then (if 2<p.dir then 17 else 0) else 2
 else 5
def chkFrom (l:List Pt) (i:Nat):List Pt→Int
 | []=>0
 | p::r=>if ptErr l p i=0 then chkFrom l (i+1) r else ptErr l p i
def chkA (nm:List UInt8) (l:List Pt):Int :=
 if nameB nm 8 then (if l.length<2 then 1 else if 40<l.length then 3 else chkFrom l 0 l) else 5
theorem chk_step {l:List Pt} {k:Nat} (h:k<l.length):chkFrom l k (l.drop k)=if ptErr l l[k] k=0 then chkFrom l (k+1) (l.drop (k+1)) else ptErr l l[k] k:=by
 rw[List.drop_eq_getElem_cons h];rfl
theorem chk_end {l:List Pt} {k:Nat} (h:l.length≤k):chkFrom l k (l.drop k)=0:=by
 rw[List.drop_eq_nil_of_le h];rfl
set_option maxHeartbeats 400000 in
theorem free_any (w:World):Calls Tryz.prog 149 #[] w fun e w'=>e=.returned (.agg #[.int .i64 (-200000),.int .i64 6000000])∧w'=w.alloc (.cells #[.int .i64 (-200000),.int .i64 6000000] 51):=by
 go_enter Tryz.func149,Tryz.ntmps149
 go_wp2
 exact bodyPost_ret (v:=.agg #[.int .i64 (-200000),.int .i64 6000000]) (by simp[results,Tryz.results149,go_sem]) rfl ⟨rfl,rfl⟩
set_option maxHeartbeats 400000 in
theorem rfree_any (w:World):Calls Tryz.prog 137 #[] w fun e w'=>e=.returned (.agg #[.int .i64 (-200000),.int .i64 6000000])∧w'=w.alloc (.cells #[.int .i64 (-200000),.int .i64 6000000] 51):=by
 go_enter Tryz.func137,Tryz.ntmps137
 go_wp2
 exact bodyPost_ret (v:=.agg #[.int .i64 (-200000),.int .i64 6000000]) (by simp[results,Tryz.results137,go_sem]) rfl ⟨rfl,rfl⟩
theorem ptErr_ref {l:List Pt} {p:Pt} {i:Nat} (h:¬refErr p.ref=0):ptErr l p i=5:=by unfold ptErr;rw[if_neg h]
theorem ptErr_twice {l:List Pt} {p:Pt} {i:Nat} (h:refErr p.ref=0) (h2:idxOf l p.ref<i):ptErr l p i=7:=by unfold ptErr;rw[if_pos h,if_pos h2]
theorem ptErr_last {l:List Pt} {p:Pt} {i:Nat} (h:refErr p.ref=0) (h2:¬idxOf l p.ref<i) (h3:i+1=l.length):ptErr l p i=if lastOk p then 0 else 1:=by unfold ptErr;rw[if_pos h,if_neg h2,if_pos h3]
theorem ptErr_mid {l:List Pt} {p:Pt} {i:Nat} (h:refErr p.ref=0) (h2:¬idxOf l p.ref<i) (h3:¬i+1=l.length):ptErr l p i=if winOk p.lo p.hi then (if 2<p.dir then 17 else 0) else 2:=by unfold ptErr;rw[if_pos h,if_neg h2,if_neg h3]
theorem ptErr_ways (l:List Pt) (p:Pt) (i:Nat) :
  (¬refErr p.ref=0∧ptErr l p i=5)∨(refErr p.ref=0∧((idxOf l p.ref<i∧ptErr l p i=7)∨((i:Int)≤idxOf l p.ref ∧
   ((((i:Int) == (l.length:Int)-1)=true∧((p.lo = -200000∧p.hi=6000000∧p.dir=0∧ptErr l p i=0)∨(¬p.lo = -200000∧ptErr l p i=1)∨(p.lo = -200000∧¬p.hi=6000000∧ptErr l p i=1)∨(p.lo = -200000∧p.hi=6000000∧¬p.dir=0∧ptErr l p i=1))) ∨
   (((i:Int) == (l.length:Int)-1)=false∧((p.lo < -200000∧ptErr l p i=2)∨(-200000≤p.lo∧p.hi<p.lo∧ptErr l p i=2)∨(-200000≤p.lo∧p.lo≤p.hi∧6000000<p.hi∧ptErr l p i=2)∨(-200000≤p.lo∧p.lo≤p.hi∧p.hi≤6000000∧2<(p.dir:Int)∧ptErr l p i=17)∨(-200000≤p.lo∧p.lo≤p.hi∧p.hi≤6000000∧(p.dir:Int)≤2∧ptErr l p i=0))))))):=by
 by_cases h:refErr p.ref=0
 ·refine .inr ⟨h,?_⟩
  by_cases h2:idxOf l p.ref<i
  ·exact .inl ⟨h2,ptErr_twice h h2⟩
  ·refine .inr ⟨by omega,?_⟩
   by_cases h3:i+1=l.length
   ·refine .inl ⟨by rw[beq_iff_eq];omega,?_⟩
    rw[ptErr_last h h2 h3]
    unfold lastOk
    by_cases a:p.lo = -200000
    ·by_cases b:p.hi=6000000
     ·by_cases c:p.dir=0
      ·exact .inl ⟨a,b,c,by simp[a,b,c]⟩
      ·exact .inr (.inr (.inr ⟨a,b,c,by simp[c]⟩))
     ·exact .inr (.inr (.inl ⟨a,b,by simp[b]⟩))
    ·exact .inr (.inl ⟨a,by simp[a]⟩)
   ·refine .inr ⟨by rw[beq_eq_false_iff_ne];omega,?_⟩
    rw[ptErr_mid h h2 h3]
    unfold winOk
    by_cases a : -200000≤p.lo
    ·by_cases b:p.lo≤p.hi
     ·by_cases c:p.hi≤6000000
      ·by_cases d:2<p.dir
       ·exact .inr (.inr (.inr (.inl ⟨a,b,c,by omega,by simp[a,b,c,d]⟩)))
       ·exact .inr (.inr (.inr (.inr ⟨a,b,c,by omega,by simp[a,b,c,d]⟩)))
      ·exact .inr (.inr (.inl ⟨a,b,by omega,by simp[c]⟩))
     ·exact .inr (.inl ⟨a,by omega,by simp[b]⟩)
    ·exact .inl ⟨by omega,by simp[a]⟩
 ·exact .inl ⟨h,ptErr_ref h⟩
theorem win_neq {a b c d:Int} (h:¬(a=c∧b=d)) (w:World):(binOp .neq 51 (.agg #[.int .i64 a,.int .i64 b]) (.agg #[.int .i64 c,.int .i64 d])).run Tryz.prog w=.ok (.bool true) w:=by
 go_simp
 intro h1 h2
 exact h ⟨h1,h2⟩
structure Boxes (w w1:World) (nm:ByteArray) (v:Value) (p:Pt):Prop where
 size:w.heap.size+1<w1.heap.size
 nm:w1.cell? ⟨w.heap.size,0,none⟩=some (.string nm)
 pts:w1.cell? ⟨w.heap.size,1,none⟩=some v
 ref:w1.cell? ⟨w.heap.size+1,0,none⟩=some (.string (sb p.ref))
 lo:w1.cell? ⟨w.heap.size+1,1,none⟩=some (.int .i64 p.lo)
 hi:w1.cell? ⟨w.heap.size+1,2,none⟩=some (.int .i64 p.hi)
 dir:w1.cell? ⟨w.heap.size+1,3,none⟩=some (.int .u8 (p.dir:Int))
theorem boxes_new (w:World) (nm:ByteArray) (v:Value) (p:Pt) (t u:TypeId) (m:Nat):Boxes w (((w.alloc (.cells #[.string nm,v] t)).alloc (.cells #[.string (sb p.ref),.int .i64 p.lo,.int .i64 p.hi,.int .u8 (p.dir:Int)] u)).drewN m) nm v p:=by
 constructor <;> simp[go_sem]
theorem Boxes.below {w w1 w2:World} {nm:ByteArray} {v:Value} {p:Pt} (h:Boxes w w1 nm v p) (hb:Below w1.heap.size w1 w2):Boxes w w2 nm v p:=by
 obtain⟨h0,h1,h2,h3,h4,h5,h6⟩:=h
 have l0:w.heap.size<w1.heap.size:=by omega
 exact⟨Nat.lt_of_lt_of_le h0 hb.size,(hb.cell (p:=⟨_,_,none⟩) l0).trans h1,(hb.cell (p:=⟨_,_,none⟩) l0).trans h2,(hb.cell (p:=⟨_,_,none⟩) h0).trans h3,(hb.cell (p:=⟨_,_,none⟩) h0).trans h4,(hb.cell (p:=⟨_,_,none⟩) h0).trans h5,(hb.cell (p:=⟨_,_,none⟩) h0).trans h6⟩
set_option maxRecDepth 100000 in
set_option maxHeartbeats 4000000 in
theorem checkPoint_any (nm:ByteArray) (v:Value) (l:List Pt) (i:Nat) (w:World) (h:PtsR w v l) (hi:i<l.length) :
  Calls Tryz.prog 69 #[.agg #[.string nm,v],.int .i64 (i:Int)] w fun e w'=>e=.returned (.int .i64 (ptErr l l[i] i))∧Below w.heap.size w w':=by
 obtain⟨A,c,rfl,hc,hm⟩:=h.form
 unfold maxLen at hm
 obtain⟨g,o,c',hA,hg,k0,k1,k2,k3⟩:=h.at_ hi
 simp only[Value.slice.injEq,true_and] at hA
 obtain⟨rfl,rfl⟩:=hA
 have hp2:=h.2 _ (List.getElem_mem hi)
 have H:=Lib.hid h
 obtain⟨p,hp⟩:∃p,l[i]=p:=⟨_,rfl⟩
 rw[hp] at k0 k1 k2 k3 hp2
 rw[hp]
 have hw:=ptErr_ways l p i
 obtain⟨er,he⟩:∃er,ptErr l p i=er:=⟨_,rfl⟩
 rw[he] at hw
 rw[he]
 obtain⟨n,hnn⟩:∃n,l.length=n:=⟨_,rfl⟩
 rw[hnn] at hc H hi hw
 rw[hnn]
 obtain⟨hps,hpd⟩:=hp2
 clear h hp he hnn
 have hi':(i:Int)<(n:Int):=by omega
 go_enter Tryz.func69,Tryz.ntmps69
 go_wp2_with fail
 refine(splitRef_any (sb p.ref) _ hps).mono ?_
 rintro e1 w1 ⟨a,b,rfl,_,_,_,_,m,rfl⟩
 rw[bl_sb]
 have hB1:=Lib.hid (((((Below.refl w.heap.size w).alloc (Nat.le_refl _) (.cells #[.string nm,.slice (some ⟨g,o,none⟩) n c] 48)).alloc (by simp) (.cells #[.string (sb p.ref),.int .i64 p.lo,.int .i64 p.hi,.int .u8 (p.dir:Int)] 53)).trans (below_drewN' (Below.refl _ _) m)))
 rcases hw with ⟨h1,rfl⟩|⟨h1,hw⟩
 ·have e1:(refErr p.ref != 0)=true:=bne_iff_ne.2 h1
  clear h1
  go_wp2
  go_ret
  exact⟨rfl,hB1.out⟩
 rw[h1]
 have X1:=Lib.hid (boxes_new w nm (.slice (some ⟨g,o,none⟩) n c) p 48 53 m)
 clear h1
 go_wp2_with fail
 refine(index_any nm (sb p.ref) _ l _ (H.out.below hB1.out)).mono ?_
 rintro e1 w2 ⟨rfl,hb2⟩
 rw[bl_sb]
 have X2:=Lib.hid (X1.out.below hb2)
 have hB2:=Lib.hid (hB1.out.trans (hb2.mono (by simp;omega)))
 obtain⟨ix,hix⟩:∃ix,idxOf l p.ref=ix:=⟨_,rfl⟩
 rw[hix] at hw ⊢
 clear hix hb2 k0 k1 k2 k3 hB1 X1
 obtain⟨x0,x1,x2,x3,x4,x5,x6⟩:=X2.out
 rcases hw with ⟨h2,rfl⟩|⟨h2,⟨h3,hw⟩|⟨h3,hw⟩⟩
 ·go_wp2
  go_ret
  exact⟨rfl,hB2.out⟩
 ·go_upto_region 8 with (fail)
  go_cut [43] (fun c wx=>∃b:Bool,c=.bool b∧Hid (er=if b then 1 else 0)∧Below w.heap.size w wx)
  case first =>
   obtain⟨pr,plo,phi,pd⟩:=p
   simp only at hw x3 x4 x5 x6
   have hbF:∀k,Below w.heap.size w ((w2.alloc (.cells #[.int .i64 (-200000),.int .i64 6000000] 51)).drewN k):=fun k=>(hB2.out.alloc (by omega) _).trans (below_drewN' (Below.refl _ _) k)
   have HBF:=Lib.hid hbF
   clear hbF
   rcases hw with ⟨rfl,rfl,rfl,rfl⟩|⟨c1,rfl⟩|⟨rfl,c2,rfl⟩|⟨rfl,rfl,c3,rfl⟩
   ·skip
    first|go_region_with (go_at_call 149;refine(free_any _).mono ?_;rintro e w' ⟨rfl,rfl⟩)|fail
    all_goals
     go_wp2_with fail
     go_meet
     exact⟨_,rfl,rfl,by first|exact HBF.out _|exact below_ends (by omega) hB2.out⟩
   ·have hneq:=win_neq (a:=plo) (b:=phi) (c := -200000) (d:=6000000) (fun h=>c1 h.1)
    clear c1
    first|go_region_with (go_at_call 149;refine(free_any _).mono ?_;rintro e w' ⟨rfl,rfl⟩)|fail
    all_goals
     go_wp2_with fail
     go_meet
     exact⟨_,rfl,rfl,by first|exact HBF.out _|exact below_ends (by omega) hB2.out⟩
   ·have hneq:=win_neq (a := -200000) (b:=phi) (c := -200000) (d:=6000000) (fun h=>c2 h.2)
    clear c2
    first|go_region_with (go_at_call 149;refine(free_any _).mono ?_;rintro e w' ⟨rfl,rfl⟩)|fail
    all_goals
     go_wp2_with fail
     go_meet
     exact⟨_,rfl,rfl,by first|exact HBF.out _|exact below_ends (by omega) hB2.out⟩
   ·have e1:((pd:Int) != 0)=true:=bne_iff_ne.2 (by omega)
    have e2:((pd:Int) == 0)=false:=beq_eq_false_iff_ne.2 (by omega)
    clear c3
    first|go_region_with (go_at_call 149;refine(free_any _).mono ?_;rintro e w' ⟨rfl,rfl⟩)|fail
    all_goals
     go_wp2_with fail
     go_meet
     exact⟨_,rfl,rfl,by first|exact HBF.out _|exact below_ends (by omega) hB2.out⟩
  case rest =>
   obtain⟨b,rfl,hb,hbx⟩:=hcut
   cases b
   ·go_wp2
    go_ret
    exact⟨ret_int (by rw[hb.out];rfl),hbx⟩
   ·go_wp2
    go_ret
    exact⟨ret_int (by rw[hb.out];rfl),hbx⟩
 ·rcases hw with ⟨c1,rfl⟩|⟨c1,c2,rfl⟩|⟨c1,c2,c3,rfl⟩|⟨c1,c2,c3,c4,rfl⟩|⟨c1,c2,c3,c4,rfl⟩
  all_goals
   go_wp2
   go_ret
   exact⟨rfl,hB2.out⟩
theorem chkA_name {nm:List UInt8} {l:List Pt} (h:nameB nm 8=false):chkA nm l=5:=by unfold chkA;rw[h];rfl
theorem chkA_few {nm:List UInt8} {l:List Pt} (h:nameB nm 8=true) (h2:l.length<2):chkA nm l=1:=by unfold chkA;rw[h,if_pos rfl,if_pos h2]
theorem chkA_many {nm:List UInt8} {l:List Pt} (h:nameB nm 8=true) (h2:40<l.length):chkA nm l=3:=by unfold chkA;rw[h,if_pos rfl,if_neg (by omega),if_pos h2]
theorem chkA_pts {nm:List UInt8} {l:List Pt} (h:nameB nm 8=true) (h2:2≤l.length) (h3:l.length≤40):chkA nm l=chkFrom l 0 l:=by unfold chkA;rw[h,if_pos rfl,if_neg (by omega),if_neg (by omega)]
set_option maxRecDepth 100000 in
set_option maxHeartbeats 4000000 in
theorem check_any (nm:ByteArray) (v:Value) (l:List Pt) (w:World) (h:PtsR w v l) (hnm:nm.size≤maxLen) :
  Calls Tryz.prog 16 #[.agg #[.string nm,v]] w fun e w'=>e=.returned (.int .i64 (chkA (bl nm) l))∧Below w.heap.size w w':=by
 obtain⟨A,c,rfl,hc,hm⟩:=h.form
 unfold maxLen at hm
 have H:=Lib.hid h
 clear h
 obtain⟨n,hnn⟩:∃n,l.length=n:=⟨_,rfl⟩
 rw[hnn] at hc H
 rw[hnn]
 have HN:=Lib.hid hnn
 obtain⟨x,hx⟩:∃x,chkA (bl nm) l=x:=⟨_,rfl⟩
 rw[hx]
 have HXX:=Lib.hid hx
 clear hnn hx
 go_enter Tryz.func16,Tryz.ntmps16
 go_wp2_with fail
 refine(name_any nm 8 _ hnm).mono ?_
 rintro e1 w1 ⟨rfl,rfl⟩
 have hB0:=Lib.hid ((Below.refl w.heap.size w).alloc (Nat.le_refl _) (.cells #[.string nm,.slice A n c] 48))
 cases hname:nameB (bl nm) 8
 ·have HM:=Lib.hid hname
  clear hname
  go_wp2
  go_ret
  exact⟨ret_int ((chkA_name HM.out).symm.trans HXX.out),hB0.out⟩
 have HM:=Lib.hid hname
 clear hname
 rcases(show n<2∨(2≤n∧40<n)∨(2≤n∧n≤40) by omega) with h2|⟨h2,h40⟩|⟨h2,h40⟩
 ·have h2':(n:Int)<2:=by omega
  go_wp2
  go_ret
  exact⟨ret_int ((chkA_few HM.out (by rw[HN.out];exact h2)).symm.trans HXX.out),hB0.out⟩
 ·have h2':(2:Int)≤(n:Int):=by omega
  have h40':(40:Int)<(n:Int):=by omega
  go_wp2
  go_ret
  exact⟨ret_int ((chkA_many HM.out (by rw[HN.out];exact h40)).symm.trans HXX.out),hB0.out⟩
 ·have h2':(2:Int)≤(n:Int):=by omega
  have h40':(n:Int)≤40:=by omega
  have HX:=Lib.hid ((chkA_pts HM.out (by rw[HN.out];exact h2) (by rw[HN.out];exact h40)).symm.trans HXX.out)
  go_wp2
  go_loopw [23] (fun i wr=>∃k:Nat,k≤n∧i=.int .i64 k∧Hid (chkFrom l k (l.drop k)=x)∧Below w.heap.size w wr∧Below (w.heap.size+1) (w.alloc (.cells #[.string nm,.slice A n c] 48)) wr) (fun i _=>n-(intOf i).toNat)
  case atStart=>exact⟨0,Nat.zero_le _,rfl,HX.out,hB0.out,Below.refl _ _⟩
  case round =>
   obtain⟨k,hk,rfl,hix,hbr,hbx⟩:=hrel
   by_cases hlt:k<n
   ·have hkl:k<l.length:=by rw[HN.out];exact hlt
    have HS:=Lib.hid (chk_step hkl)
    have b0:wr.cell? ⟨w.heap.size,0,none⟩=some (.string nm):=(hbx.cell (p:=⟨w.heap.size,0,none⟩) (by simp)).trans (by simp[go_sem])
    have b1:wr.cell? ⟨w.heap.size,1,none⟩=some (.slice A n c):=(hbx.cell (p:=⟨w.heap.size,1,none⟩) (by simp)).trans (by simp[go_sem])
    have bs:w.heap.size<wr.heap.size:=Nat.lt_of_lt_of_le (by simp) hbx.size
    go_wp2_with fail
    refine(checkPoint_any nm _ l k _ (H.out.below hbr) hkl).mono ?_
    rintro e1 w2 ⟨rfl,hb2⟩
    have hbn:=hbr.trans (hb2.mono hbr.size)
    have hbn2:=hbx.trans (hb2.mono bs)
    obtain⟨er,he⟩:∃er,ptErr l l[k] k=er:=⟨_,rfl⟩
    rw[he] at HS ⊢
    clear he hkl b0 b1
    by_cases h0:er=0
    ·have e1:(er != 0)=false:=by rw[h0];rfl
     have H0:=Lib.hid h0
     clear h0
     go_wp2
     go_roundw
     case rel=>exact⟨k+1,hlt,by go_num,by unfold Hid;rw[←hix.out,HS.out,if_pos H0.out],hbn,hbn2⟩
     case measure=>simp[intOf];omega
    ·have e1:(er != 0)=true:=bne_iff_ne.2 h0
     have H0:=Lib.hid h0
     clear h0
     go_wp2
     go_ret
     exact⟨ret_int (by rw[←hix.out,HS.out,if_neg H0.out]),hbn⟩
   ·have HE:=Lib.hid (chk_end (l:=l) (k:=k) (by have:=HN.out;omega))
    go_wp2
    go_ret
    exact⟨ret_int (by rw[←hix.out,HE.out]),hbr⟩

set_option maxRecDepth 100000 in
set_option maxHeartbeats 8000000 in
theorem rcheck_any (nm:ByteArray) (v:Value) (l:List Pt) (w:World) (h:PtsR w v l) (hnm:nm.size≤maxLen) :
  Calls Tryz.prog 54 #[.agg #[.string nm,v]] w fun e w'=>e=.returned (.int .i64 (chkA (bl nm) l))∧Below w.heap.size w w':=by
 obtain⟨A,c,rfl,hc,hm⟩:=h.form
 unfold maxLen at hm
 have H:=Lib.hid h
 clear h
 obtain⟨n,hnn⟩:∃n,l.length=n:=⟨_,rfl⟩
 rw[hnn] at hc H
 rw[hnn]
 have HN:=Lib.hid hnn
 obtain⟨x,hx⟩:∃x,chkA (bl nm) l=x:=⟨_,rfl⟩
 rw[hx]
 have HXX:=Lib.hid hx
 clear hnn hx
 go_enter Tryz.func54,Tryz.ntmps54
 go_wp2_with fail
 refine(rname_any nm 8 _ hnm).mono ?_
 rintro e1 w1 ⟨rfl,rfl⟩
 have hB0:=Lib.hid ((Below.refl w.heap.size w).alloc (Nat.le_refl _) (.cells #[.string nm,.slice A n c] 48))
 cases hname:nameB (bl nm) 8
 ·have HM:=Lib.hid hname
  clear hname
  go_wp2
  go_ret
  exact⟨ret_int ((chkA_name HM.out).symm.trans HXX.out),hB0.out⟩
 have HM:=Lib.hid hname
 clear hname
 rcases(show n<2∨(2≤n∧40<n)∨(2≤n∧n≤40) by omega) with h2|⟨h2,h40⟩|⟨h2,h40⟩
 ·have h2':(n:Int)<2:=by omega
  go_wp2
  go_ret
  exact⟨ret_int ((chkA_few HM.out (by rw[HN.out];exact h2)).symm.trans HXX.out),hB0.out⟩
 ·have h2':(2:Int)≤(n:Int):=by omega
  have h40':(40:Int)<(n:Int):=by omega
  go_wp2
  go_ret
  exact⟨ret_int ((chkA_many HM.out (by rw[HN.out];exact h40)).symm.trans HXX.out),hB0.out⟩
 ·have h2':(2:Int)≤(n:Int):=by omega
  have h40':(n:Int)≤40:=by omega
  have HX:=Lib.hid ((chkA_pts HM.out (by rw[HN.out];exact h2) (by rw[HN.out];exact h40)).symm.trans HXX.out)
  go_wp2
  go_loopw [26] (fun i wr=>∃k:Nat,k≤n∧i=.int .i64 k∧Hid (chkFrom l k (l.drop k)=x)∧Below w.heap.size w wr∧Below (w.heap.size+1) (w.alloc (.cells #[.string nm,.slice A n c] 48)) wr) (fun i _=>n-(intOf i).toNat)
  case atStart=>exact⟨0,Nat.zero_le _,rfl,HX.out,hB0.out,Below.refl _ _⟩
  case round =>
   obtain⟨k,hk,rfl,hix,hbr,hbx⟩:=hrel
   by_cases hlt:k<n
   ·have hkl:k<l.length:=by rw[HN.out];exact hlt
    have HS:=Lib.hid (chk_step hkl)
    have b0:wr.cell? ⟨w.heap.size,0,none⟩=some (.string nm):=(hbx.cell (p:=⟨w.heap.size,0,none⟩) (by simp)).trans (by simp[go_sem])
    have b1:wr.cell? ⟨w.heap.size,1,none⟩=some (.slice A n c):=(hbx.cell (p:=⟨w.heap.size,1,none⟩) (by simp)).trans (by simp[go_sem])
    have bs:w.heap.size<wr.heap.size:=Nat.lt_of_lt_of_le (by simp) hbx.size
    obtain⟨g,o,c',hA,hg,h0,h1,h2x,h3x⟩:=H.out.at_ hkl
    rw[HN.out] at hA
    simp only[Value.slice.injEq,true_and] at hA
    obtain⟨rfl,rfl⟩:=hA
    have k0:=(hbr.cell (p:=⟨g,o+k*4,none⟩) hg).trans h0
    have k1:=(hbr.cell (p:=⟨g,o+k*4+1,none⟩) hg).trans h1
    have k2:=(hbr.cell (p:=⟨g,o+k*4+2,none⟩) hg).trans h2x
    have k3:=(hbr.cell (p:=⟨g,o+k*4+3,none⟩) hg).trans h3x
    have hp2:=H.out.2 _ (List.getElem_mem hkl)
    have hw:=ptErr_ways l l[k] k
    obtain⟨p,hp⟩:∃p,l[k]=p:=⟨_,rfl⟩
    rw[hp] at k0 k1 k2 k3 hp2 hw HS
    obtain⟨er,he⟩:∃er,ptErr l p k=er:=⟨_,rfl⟩
    rw[he] at hw HS
    rw[HN.out] at hw
    obtain⟨hps,hpd⟩:=hp2
    clear h0 h1 h2x h3x hp hkl he hg
    have FIN:Hid (er≠0→er=x):=fun h=>by rw[←hix.out,HS.out,if_neg h]
    have NXT:Hid (er=0→chkFrom l (k+1) (l.drop (k+1))=x):=fun h=>by rw[←hix.out,HS.out,if_pos h]
    have hBa:=Lib.hid (hbr.alloc hbr.size (.cells #[.string (sb p.ref),.int .i64 p.lo,.int .i64 p.hi,.int .u8 (p.dir:Int)] 53))
    have hBx:=Lib.hid (hbx.alloc bs (.cells #[.string (sb p.ref),.int .i64 p.lo,.int .i64 p.hi,.int .u8 (p.dir:Int)] 53))
    clear hix HS
    go_wp2_with fail
    refine(rsplitRef_any (sb p.ref) _ hps).mono ?_
    rintro e1 w1 ⟨ra,rb,rfl,_,_,_,_,m,rfl⟩
    rw[bl_sb]
    have hBa:=Lib.hid (hBa.out.trans (below_drewN' (Below.refl _ _) m))
    have hBx:=Lib.hid (hBx.out.trans (below_drewN' (Below.refl _ _) m))
    rcases hw with ⟨h1,rfl⟩|⟨h1,hw⟩
    ·have e1:(refErr p.ref != 0)=true:=bne_iff_ne.2 h1
     clear h1
     go_wp2
     go_ret
     exact⟨ret_int (FIN.out (by decide)),hBa.out⟩
    rw[h1]
    clear h1 k0 k1 k2 k3
    go_wp2_with fail
    refine(rindex_any nm (sb p.ref) _ l _ (H.out.below hBa.out)).mono ?_
    rintro e1 w2 ⟨rfl,hb2⟩
    rw[bl_sb]
    have hB2:=Lib.hid (hBa.out.trans (hb2.mono (by simp;omega)))
    have hX2:=Lib.hid (hBx.out.trans (hb2.mono (by simp;omega)))
    have y0:wr.heap.size<w2.heap.size:=Nat.lt_of_lt_of_le (by simp) hb2.size
    have y1:w2.cell? ⟨wr.heap.size,0,none⟩=some (.string (sb p.ref)):=(hb2.cell (p:=⟨wr.heap.size,0,none⟩) (by simp)).trans (by simp[go_sem])
    have y2:w2.cell? ⟨wr.heap.size,1,none⟩=some (.int .i64 p.lo):=(hb2.cell (p:=⟨wr.heap.size,1,none⟩) (by simp)).trans (by simp[go_sem])
    have y3:w2.cell? ⟨wr.heap.size,2,none⟩=some (.int .i64 p.hi):=(hb2.cell (p:=⟨wr.heap.size,2,none⟩) (by simp)).trans (by simp[go_sem])
    have y4:w2.cell? ⟨wr.heap.size,3,none⟩=some (.int .u8 (p.dir:Int)):=(hb2.cell (p:=⟨wr.heap.size,3,none⟩) (by simp)).trans (by simp[go_sem])
    have b0:w2.cell? ⟨w.heap.size,0,none⟩=some (.string nm):=(hX2.out.cell (p:=⟨w.heap.size,0,none⟩) (by simp)).trans (by simp[go_sem])
    have b1:w2.cell? ⟨w.heap.size,1,none⟩=some (.slice (some ⟨g,o,none⟩) n c):=(hX2.out.cell (p:=⟨w.heap.size,1,none⟩) (by simp)).trans (by simp[go_sem])
    have bs2:w.heap.size<w2.heap.size:=by omega
    obtain⟨ix,hix⟩:∃ix,idxOf l p.ref=ix:=⟨_,rfl⟩
    rw[hix] at hw ⊢
    clear hix hb2 hBa hBx
    rcases hw with ⟨h2,rfl⟩|⟨h2,⟨h3,hw⟩|⟨h3,hw⟩⟩
    ·go_wp2
     go_ret
     exact⟨ret_int (FIN.out (by decide)),hB2.out⟩
    ·go_upto_region 16 with (fail)
     obtain⟨pr,plo,phi,pd⟩:=p
     simp only at hw y1 y2 y3 y4
     have HBF:=Lib.hid (fun(k:Nat)=>(hB2.out.alloc (Nat.le_of_lt bs2) (.cells #[.int .i64 (-200000),.int .i64 6000000] 51)).trans (below_drewN' (Below.refl _ _) k))
     have HXF:=Lib.hid (fun(k:Nat)=>(hX2.out.alloc bs2 (.cells #[.int .i64 (-200000),.int .i64 6000000] 51)).trans (below_drewN' (Below.refl _ _) k))
     rcases hw with ⟨rfl,rfl,rfl,rfl⟩|⟨c1,rfl⟩|⟨rfl,c2,rfl⟩|⟨rfl,rfl,c3,rfl⟩
     ·first|go_region_with (go_at_call 137;refine(rfree_any _).mono ?_;rintro e w' ⟨rfl,rfl⟩)|fail
      all_goals
       go_wp2
       go_roundw
       case rel=>exact⟨k+1,hlt,by go_num,NXT.out (by first|trivial|rfl),HBF.out _,HXF.out _⟩
       case measure=>simp[intOf];omega
     ·have hneq:=win_neq (a:=plo) (b:=phi) (c := -200000) (d:=6000000) (fun h=>c1 h.1)
      clear c1
      first|go_region_with (go_at_call 137;refine(rfree_any _).mono ?_;rintro e w' ⟨rfl,rfl⟩)|fail
      all_goals
       go_wp2
       go_ret
       exact⟨ret_int (FIN.out (by decide)),HBF.out _⟩
     ·have hneq:=win_neq (a := -200000) (b:=phi) (c := -200000) (d:=6000000) (fun h=>c2 h.2)
      clear c2
      first|go_region_with (go_at_call 137;refine(rfree_any _).mono ?_;rintro e w' ⟨rfl,rfl⟩)|fail
      all_goals
       go_wp2
       go_ret
       exact⟨ret_int (FIN.out (by decide)),HBF.out _⟩
     ·have e1:((pd:Int) != 0)=true:=bne_iff_ne.2 (by omega)
      have e2:((pd:Int) == 0)=false:=beq_eq_false_iff_ne.2 (by omega)
      clear c3
      first|go_region_with (go_at_call 137;refine(rfree_any _).mono ?_;rintro e w' ⟨rfl,rfl⟩)|fail
      all_goals
       go_wp2
       go_ret
       exact⟨ret_int (FIN.out (by decide)),HBF.out _⟩
    ·rcases hw with ⟨c1,rfl⟩|⟨c1,c2,rfl⟩|⟨c1,c2,c3,rfl⟩|⟨c1,c2,c3,c4,rfl⟩|⟨c1,c2,c3,c4,rfl⟩
     ·go_wp2
      go_ret
      exact⟨ret_int (FIN.out (by decide)),hB2.out⟩
     ·have c5:p.hi≤6000000∨6000000<p.hi:=by omega
      rcases c5 with c5|c5
      all_goals
       go_wp2
       go_ret
       exact⟨ret_int (FIN.out (by decide)),hB2.out⟩
     ·go_wp2
      go_ret
      exact⟨ret_int (FIN.out (by decide)),hB2.out⟩
     ·go_wp2
      go_ret
      exact⟨ret_int (FIN.out (by decide)),hB2.out⟩
     ·go_wp2
      go_roundw
      case rel=>exact⟨k+1,hlt,by go_num,NXT.out (by first|trivial|rfl),hB2.out,hX2.out⟩
      case measure=>simp[intOf];omega
   ·have HE:=Lib.hid (chk_end (l:=l) (k:=k) (by have:=HN.out;omega))
    go_wp2
    go_ret
    exact⟨ret_int (by rw[←hix.out,HE.out]),hbr⟩
end Go.Proofs.YtgmehlgfilpleaaGreatDoor
