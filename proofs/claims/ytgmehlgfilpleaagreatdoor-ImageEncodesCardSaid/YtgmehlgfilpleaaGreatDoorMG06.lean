/-
  Several texts as one.
-/
import Derived.Test.YtgmehlgfilpleaaGreatDoorMG03
import Derived.Test.YtgmehlgfilpleaaGreatDoorMG05
namespace Go.Proofs.YtgmehlgfilpleaaGreatDoor
open Go.RowKit
set_option linter.unusedVariables false
set_option linter.unusedSimpArgs false
def u8of (x:Int):UInt8:=UInt8.ofNat (x%256).toNat
theorem u8of_nat (x:Int):(((u8of x).toNat:Nat):Int)=x%256:=by
 unfold u8of
 have h0:0≤x%256:=by omega
 have h1:x%256<256:=by omega
 rw[UInt8.toNat_ofNat']
 omega
def fourL (x:Int):List UInt8:=[u8of x,u8of (x/256),u8of (x/65536),u8of (x/16777216)]
def opOk (bs:List UInt8):Bool:=bs.drop (bs.length-4) == fourL (crcF (bs.take (bs.length-4)))
def CrcOpPost (bs:List UInt8) (w:World) (e:Ending) (w':World):Prop :=
 (bs.length<4∧e=.returned (.tuple #[.slice none 0 0,.int .i64 4])∧Below w.heap.size w w') ∨
 (4≤bs.length∧opOk bs=false∧e=.returned (.tuple #[.slice none 0 0,.int .i64 12])∧Below w.heap.size w w') ∨
 (4≤bs.length∧opOk bs=true∧∃v,e=.returned (.tuple #[v,.int .i64 0])∧BsNew (bs.take (bs.length-4)) w v w')
theorem drop4 {l:List UInt8} {m:Nat} (h:l.length=m+4):l.drop m=[l[m]'(by omega),l[m+1]'(by omega),l[m+2]'(by omega),l[m+3]'(by omega)]:=by
 rw[List.drop_eq_getElem_cons (by omega),List.drop_eq_getElem_cons (by omega),List.drop_eq_getElem_cons (by omega),List.drop_eq_getElem_cons (by omega),List.drop_eq_nil_of_le (by omega)]
theorem opOk_iff {l:List UInt8} {m:Nat} (h:l.length=m+4):opOk l=true↔((l[m]'(by omega)).toNat:Int)=crcF (l.take m)%256∧((l[m+1]'(by omega)).toNat:Int)=crcF (l.take m)/256%256∧((l[m+2]'(by omega)).toNat:Int)=crcF (l.take m)/65536%256∧((l[m+3]'(by omega)).toNat:Int)=crcF (l.take m)/16777216%256:=by
 have hu:∀(b:UInt8) (x:Int),b=u8of x↔((b.toNat:Nat):Int)=x%256:=by
  intro b x
  rw[←u8of_nat]
  constructor
  ·rintro rfl;rfl
  ·intro e;exact UInt8.toNat_inj.1 (by omega)
 have e:l.length-4=m:=by omega
 unfold opOk fourL
 rw[e,beq_iff_eq,drop4 h]
 simp only[List.cons.injEq,and_true,hu]
set_option maxRecDepth 100000 in
set_option maxHeartbeats 8000000 in
theorem copen_any (v:Value) (bs:List UInt8) (w:World) (h:BsV w v bs) (hL:bs.length≤1000000) :
  Calls Tryz.prog 229 #[v] w (CrcOpPost bs w):=by
 obtain⟨A,c,rfl,hc,hm,hx⟩:=h
 have hm':=hm
 unfold maxLen at hm
 rcases Nat.lt_or_ge bs.length 4 with h4|h4
 ·have HP:Hid (CrcOpPost bs w (.returned (.tuple #[.slice none 0 0,.int .i64 4])) w):=.inl ⟨h4,rfl,Below.refl _ _⟩
  obtain⟨N,hN⟩:∃N,bs.length=N:=⟨_,rfl⟩
  rw[hN] at hc h4 ⊢
  clear hx hL hN hm'
  go_enter Tryz.func229,Tryz.ntmps229
  go_wp2
  go_ret2
  exact HP.out
 ·obtain⟨m,hm4⟩:∃m,bs.length=m+4:=⟨bs.length-4,by omega⟩
  obtain⟨g,o,rfl,hb⟩:=hx (by omega)
  have hlt:(bs.take m).length=m:=by rw[List.length_take];omega
  have HLT:=Lib.hid hlt
  have hs:=csum_any (.slice (some ⟨g,o,none⟩) m c) (bs.take m) w ⟨_,c,by rw[hlt],by omega,hm',fun _=>⟨g,o,rfl,hb.take m⟩⟩
  have hcl:=cloneB_any g o c (bs.take m) w (hb.take m) (by omega) hm' (by omega)
  rw[hlt] at hcl
  have b0:=hb.cell (j:=m) (by omega)
  have b1:=hb.cell (j:=m+1) (by omega)
  have b2:=hb.cell (j:=m+2) (by omega)
  have b3:=hb.cell (j:=m+3) (by omega)
  have hiff:=opOk_iff hm4
  have hbd:=crcF_bd (bs.take m)
  have HPN:Hid (opOk bs=false→CrcOpPost bs w (.returned (.tuple #[.slice none 0 0,.int .i64 12])) w):=fun hf=>.inr (.inl ⟨h4,hf,rfl,Below.refl _ _⟩)
  have HPY:Hid (opOk bs=true→∀v w',BsNew (bs.take m) w v w'→CrcOpPost bs w (.returned (.tuple #[v,.int .i64 0])) w'):=fun hf v w' hn=>.inr (.inr ⟨h4,hf,v,rfl,by rw[hm4,Nat.add_sub_cancel];exact hn⟩)
  obtain⟨S,hS⟩:∃S,crcF (bs.take m)=S:=⟨_,rfl⟩
  rw[hS] at hs hiff hbd
  obtain⟨x0,hx0⟩:∃x:Int,((bs[m]'(by omega)).toNat:Int)=x:=⟨_,rfl⟩
  obtain⟨x1,hx1⟩:∃x:Int,((bs[m+1]'(by omega)).toNat:Int)=x:=⟨_,rfl⟩
  obtain⟨x2,hx2⟩:∃x:Int,((bs[m+2]'(by omega)).toNat:Int)=x:=⟨_,rfl⟩
  obtain⟨x3,hx3⟩:∃x:Int,((bs[m+3]'(by omega)).toNat:Int)=x:=⟨_,rfl⟩
  rw[hx0] at b0 hiff
  rw[hx1] at b1 hiff
  rw[hx2] at b2 hiff
  rw[hx3] at b3 hiff
  have HIF:=Lib.hid hiff
  obtain⟨N,hN⟩:∃N,bs.length=N:=⟨_,rfl⟩
  rw[hN] at hc hL ⊢
  have hNm:(N:Int)-4=(m:Int):=by omega
  have hm1:((m:Int)+1).toNat=m+1:=by omega
  have hm2:((m:Int)+2).toNat=m+2:=by omega
  have hm3:((m:Int)+3).toNat=m+3:=by omega
  have hmN:(m:Int)+4≤(N:Int):=by omega
  have HS:=Lib.hid hs
  have HCL:=Lib.hid hcl
  clear hs hcl hiff hb hx hS hx0 hx1 hx2 hx3 hN hm4 hlt h4 hm'
  go_enter Tryz.func229,Tryz.ntmps229
  go_wp2_with fail
  refine HS.out.mono ?_
  rintro e w1 ⟨rfl,rfl⟩
  clear HS
  by_cases e0:x0=S%256
  ·by_cases e1:x1=S/256%256
   ·by_cases e2:x2=S/65536%256
    ·by_cases e3:x3=S/16777216%256
     ·have hT:=HIF.out.2 ⟨e0,e1,e2,e3⟩
      have HT:=Lib.hid (HPY.out hT)
      have q0:(x0 == S%256)=true:=by rw[beq_iff_eq];exact e0
      have p0:(x0 != S%256)=false:=by rw[bne,q0];rfl
      have q1:(x1 == S/256%256)=true:=by rw[beq_iff_eq];exact e1
      have p1:(x1 != S/256%256)=false:=by rw[bne,q1];rfl
      have q2:(x2 == S/65536%256)=true:=by rw[beq_iff_eq];exact e2
      have p2:(x2 != S/65536%256)=false:=by rw[bne,q2];rfl
      have q3:(x3 == S/16777216%256)=true:=by rw[beq_iff_eq];exact e3
      have p3:(x3 != S/16777216%256)=false:=by rw[bne,q3];rfl
      clear e0 e1 e2 e3 hT HIF HPN HPY
      go_wp2_with fail
      refine HCL.out.mono ?_
      rintro e w2 ⟨v,rfl,hn⟩
      have HN:=Lib.hid (HT.out v w2 hn)
      obtain⟨gb,cb,rfl,-⟩:=hn
      rw[HLT.out] at HN ⊢
      clear HT HCL
      go_wp2
      go_ret2
      exact HN.out
     ·have hT:opOk bs=false:=by
       rw[←Bool.not_eq_true];intro h;exact e3 (HIF.out.1 h).2.2.2
      have HT:=Lib.hid (HPN.out hT)
      have q0:(x0 == S%256)=true:=by rw[beq_iff_eq];exact e0
      have p0:(x0 != S%256)=false:=by rw[bne,q0];rfl
      have q1:(x1 == S/256%256)=true:=by rw[beq_iff_eq];exact e1
      have p1:(x1 != S/256%256)=false:=by rw[bne,q1];rfl
      have q2:(x2 == S/65536%256)=true:=by rw[beq_iff_eq];exact e2
      have p2:(x2 != S/65536%256)=false:=by rw[bne,q2];rfl
      have q3:(x3 == S/16777216%256)=false:=by rw[beq_eq_false_iff_ne];exact e3
      have p3:(x3 != S/16777216%256)=true:=by rw[bne,q3];rfl
      clear e0 e1 e2 e3 hT HIF HPN HPY HCL
      go_wp2
      all_goals(go_ret2;exact HT.out)
    ·have hT:opOk bs=false:=by
      rw[←Bool.not_eq_true];intro h;exact e2 (HIF.out.1 h).2.2.1
     have HT:=Lib.hid (HPN.out hT)
     have q0:(x0 == S%256)=true:=by rw[beq_iff_eq];exact e0
     have p0:(x0 != S%256)=false:=by rw[bne,q0];rfl
     have q1:(x1 == S/256%256)=true:=by rw[beq_iff_eq];exact e1
     have p1:(x1 != S/256%256)=false:=by rw[bne,q1];rfl
     have q2:(x2 == S/65536%256)=false:=by rw[beq_eq_false_iff_ne];exact e2
     have p2:(x2 != S/65536%256)=true:=by rw[bne,q2];rfl
     clear e0 e1 e2 hT HIF HPN HPY HCL
     go_wp2
     all_goals(go_ret2;exact HT.out)
   ·have hT:opOk bs=false:=by
     rw[←Bool.not_eq_true];intro h;exact e1 (HIF.out.1 h).2.1
    have HT:=Lib.hid (HPN.out hT)
    have q0:(x0 == S%256)=true:=by rw[beq_iff_eq];exact e0
    have p0:(x0 != S%256)=false:=by rw[bne,q0];rfl
    have q1:(x1 == S/256%256)=false:=by rw[beq_eq_false_iff_ne];exact e1
    have p1:(x1 != S/256%256)=true:=by rw[bne,q1];rfl
    clear e0 e1 hT HIF HPN HPY HCL
    go_wp2
    all_goals(go_ret2;exact HT.out)
  ·have hT:opOk bs=false:=by
    rw[←Bool.not_eq_true];intro h;exact e0 (HIF.out.1 h).1
   have HT:=Lib.hid (HPN.out hT)
   have q0:(x0 == S%256)=false:=by rw[beq_eq_false_iff_ne];exact e0
   have p0:(x0 != S%256)=true:=by rw[bne,q0];rfl
   clear e0 hT HIF HPN HPY HCL
   go_wp2
   all_goals(go_ret2;exact HT.out)
set_option maxRecDepth 100000 in
set_option maxHeartbeats 2000000 in
theorem cloneO_any (g o c:Nat) (bs:List UInt8) (w:World) (h:BsA w g o bs) (hc:bs.length≤c) (hm:c≤maxLen) (hN:bs.length≤1000000000) :
  Calls Tryz.prog 158 #[.slice (some ⟨g,o,none⟩) bs.length c] w fun e w'=>∃v,e=.returned v∧BsNew bs w v w'∧w'.ownsRow w.heap.size 5 1 v bs.length (bs.map u8c):=by
 obtain⟨i0,hi,hz0,hz1,hz2⟩:=info_parts infoU8b
 have hnil:∀W,(binOp .eql 68 (.slice (some ⟨g,o,none⟩) bs.length c) (.slice none 0 0)).run Tryz.prog W=.ok (.bool false) W:=fun W=>Lib.run_eql_slice_nil W _ _ _ _ _ _ _ Tryz.underlying68
 have HEMP:=Lib.hid (World.ownsRow_lit (base:=w.heap.size) (e:=5) (size:=1) w #[] 0 (Nat.le_refl _) (by unfold maxLen;omega) rfl)
 have hba:Below w.heap.size w (w.alloc (.cells #[] 5)):=(Below.refl _ _).alloc (Nat.le_refl _) _
 have HX:=Lib.hid (h.news hba)
 have HONE:=Lib.hid (u8cells_one bs)
 have HL2:Hid ((bs.map u8c).length=bs.length*1):=by unfold Hid;simp
 have H0:Hid (bs.length=0→BsNew bs w (.slice (some ⟨w.heap.size,0,none⟩) bs.length 0) (w.alloc (.cells #[] 5))∧(w.alloc (.cells #[] 5)).ownsRow w.heap.size 5 1 (.slice (some ⟨w.heap.size,0,none⟩) bs.length 0) bs.length (bs.map u8c)):=by
  intro h0
  refine⟨?_,by rw[List.eq_nil_of_length_eq_zero h0];exact HEMP.out⟩
  refine⟨w.heap.size,0,rfl,by omega,by unfold maxLen;omega,Nat.le_refl _,?_,hba⟩
  rw[List.eq_nil_of_length_eq_zero h0]
  exact BsA.nil (by simp)
 unfold maxLen at hm
 obtain⟨n,hn⟩:∃n,bs.length=n:=⟨_,rfl⟩
 have HN:=Lib.hid hn
 rw[hn] at hc hN hnil HL2 H0 ⊢
 clear h hba hn
 rcases Nat.eq_zero_or_pos n with h0|h0
 ·have HZ:=Lib.hid (H0.out h0)
  subst h0
  clear H0
  go_enter Tryz.func158,Tryz.ntmps158
  go_wp2
  go_ret
  exact⟨_,rfl,HZ.out⟩
 ·clear H0
  go_enter Tryz.func158,Tryz.ntmps158
  go_wp2_with (at_builtin;(refine wpList_append_lies _ rfl _ _ 68 rfl w.heap.size 5 i0 (.int .u8 0) 1 1 Tryz.underlying68 hi hz0 hz1 hz2 rfl (by decide) _ _ _ rfl HEMP.out ⟨g,o,none⟩ n c (bs.map u8c) rfl HL2.out HX.out HONE.out h0 ?c3 ?c4 ?c5 _ rfl ?_))
  case c3=>unfold maxLen;omega
  case c4=>omega
  intro gg cap w' hown' hgrow hor hgg
  have HB:Hid (Below w.heap.size w w'):=(((Below.refl _ _).alloc (Nat.le_refl _) _).grown hgrow (by simp) (fun k hk=>by cases hk;exact Nat.le_refl _))
  have HO:Hid (BsNew bs w (.slice (some ⟨gg,0,none⟩) n cap) w'∧w'.ownsRow w.heap.size 5 1 (.slice (some ⟨gg,0,none⟩) n cap) n (bs.map u8c)):=by
   have h2:w'.ownsRow w.heap.size 5 1 (.slice (some ⟨gg,0,none⟩) bs.length cap) bs.length (bs.map u8c):=by rw[HN.out];simpa using hown'
   have h3:=BsNew.of_own h2 HB.out
   rw[HN.out] at h3 h2
   exact⟨h3,h2⟩
  clear hown' hgrow hor hgg
  try rw[Nat.zero_add]
  go_wp2
  go_ret
  exact⟨_,rfl,HO.out⟩
theorem four_cells (x:Int) (h0:0≤x) (h1:x<4294967296):(fourL x).map u8c=[.int .u8 (x%256),.int .u8 (x/256%256),.int .u8 (x/65536%256),.int .u8 (x/16777216)]:=by
 have e:x/16777216%256=x/16777216:=by omega
 unfold fourL u8c
 simp only[List.map_cons,List.map_nil,u8of_nat,e]
def sealL (bs:List UInt8):List UInt8:=bs++fourL (crcF bs)
set_option maxRecDepth 100000 in
set_option maxHeartbeats 8000000 in
theorem cseal_any (g o c:Nat) (bs:List UInt8) (w:World) (h:BsA w g o bs) (hc:bs.length≤c) (hm:c≤maxLen) (hN:bs.length≤1000000) :
  Calls Tryz.prog 82 #[.slice (some ⟨g,o,none⟩) bs.length c] w fun e w'=>∃v,e=.returned v∧BsNew (sealL bs) w v w':=by
 obtain⟨i0,hi,hz0,hz1,hz2⟩:=info_parts infoU8b
 have hs:=csum_any (.slice (some ⟨g,o,none⟩) bs.length c) bs w ⟨_,c,rfl,hc,hm,fun _=>⟨g,o,rfl,h⟩⟩
 have hcl:=cloneO_any g o c bs w h hc hm (by omega)
 have hbd:=crcF_bd bs
 have hf:=four_cells (crcF bs) hbd.1 hbd.2
 have HSL:Hid ((sealL bs).map u8c=bs.map u8c++(fourL (crcF bs)).map u8c):=by unfold Hid sealL;rw[List.map_append]
 have HSN:Hid ((sealL bs).length=bs.length+4):=by unfold Hid sealL;rw[List.length_append];rfl
 obtain⟨S,hS⟩:∃S,crcF bs=S:=⟨_,rfl⟩
 rw[hS] at hs hbd hf HSL
 rw[hf] at HSL
 have HCL:=Lib.hid hcl
 obtain⟨n,hn⟩:∃n,bs.length=n:=⟨_,rfl⟩
 rw[hn] at hs hcl hc hN HSN HCL ⊢
 unfold maxLen at hm
 have HN:=Lib.hid hn
 clear h hS hf hcl hn
 go_enter Tryz.func82,Tryz.ntmps82
 go_wp2_with fail
 refine hs.mono ?_
 rintro e w1 ⟨rfl,rfl⟩
 clear hs
 go_wp2_with fail
 refine HCL.out.mono ?_
 rintro e w2 ⟨v,rfl,hv,hown⟩
 have hb2:Below w.heap.size w w2:=by obtain⟨_,_,_,_,_,_,_,hb⟩:=hv;exact hb
 obtain⟨A2,n2,c2,hvf⟩:=own_form hown
 rw[hvf] at hown ⊢
 have hlo:=hown.lt
 have HB2:=Lib.hid hb2
 have HOWN:=Lib.hid hown
 clear hv hvf hb2 HCL
 go_wp2_with (at_builtin;(refine wpList_append_lies _ rfl _ _ 68 rfl w.heap.size 5 i0 (.int .u8 0) 1 1 Tryz.underlying68 hi hz0 hz1 hz2 rfl (by decide) _ _ _ rfl (HOWN.out.alloc _) ⟨w2.heap.size,0,none⟩ 4 4 [.int .u8 (S%256),.int .u8 (S/256%256),.int .u8 (S/65536%256),.int .u8 (S/16777216)] rfl rfl (World.news_of_block (heap_alloc_new w2 _)) ?c2 (by decide) ?c3 ?c4 ?c5 _ rfl ?_))
 case c2=>intro u hu;simp only[List.mem_cons,List.not_mem_nil,or_false] at hu;rcases hu with rfl|rfl|rfl|rfl <;> rfl
 case c3=>unfold maxLen;omega
 case c4=>omega
 case c5=>have:=HB2.out.size;simp;omega
 intro gg cap w' hown' hgrow hor hgg
 have HB:Hid (Below w.heap.size w w'):=((HB2.out.alloc HB2.out.size _).grown hgrow (by have:=HB2.out.size;simp;omega) (fun k hk=>(hlo k hk).1))
 have HO:Hid (BsNew (sealL bs) w (.slice (some ⟨gg,0,none⟩) (n+4) cap) w'):=by
  have h2:w'.ownsRow w.heap.size 5 1 (.slice (some ⟨gg,0,none⟩) (sealL bs).length cap) (sealL bs).length ((sealL bs).map u8c):=by rw[HSN.out,HSL.out];exact hown'
  have h3:=BsNew.of_own h2 HB.out
  rw[HSN.out] at h3
  exact h3
 clear hown' hgrow hor hgg hlo hown
 go_wp2
 go_ret
 exact⟨_,rfl,HO.out⟩
theorem seal_ok (bs:List UInt8):opOk (sealL bs)=true∧(sealL bs).take ((sealL bs).length-4)=bs:=by
 have hl:(sealL bs).length=bs.length+4:=by unfold sealL;rw[List.length_append];rfl
 have ht:(sealL bs).take ((sealL bs).length-4)=bs:=by rw[hl,Nat.add_sub_cancel];unfold sealL;exact List.take_left
 have hd:(sealL bs).drop ((sealL bs).length-4)=fourL (crcF bs):=by rw[hl,Nat.add_sub_cancel];unfold sealL;exact List.drop_left
 refine⟨?_,ht⟩
 unfold opOk
 rw[hd,ht]
 simp
structure WrR (g B:Nat) (v:Value) (out:List UInt8) (w:World):Prop where
 bx:Bx g #[v] 132 w
 own:w.ownsRow B 5 1 v out.length (out.map u8c)
 hi:B≤w.heap.size
theorem WrR.lo {g B:Nat} {v:Value} {out:List UInt8} {w:World} (h:WrR g B v out w):v.ownBlock≠some g:=fun e=>by
 obtain⟨cur,e',z,hh,he⟩:=own_block h.own g e
 have h5:=h.bx
 unfold Bx at h5
 rw[h5] at hh
 injection hh with hh
 injection hh with _ h6 _
 rw[←h6] at he
 exact absurd he (by decide)
theorem bx_ne {g b:Nat} {v:Value} {w:World} {cur:Array Value} {z:Nat × Nat} (h:Bx g #[v] 132 w) (hh:w.heap[b]? = some (.cells cur 5 z)):b≠g:=fun e=>by
 subst e
 unfold Bx at h
 rw[h] at hh
 injection hh with hh
 injection hh with _ h6 _
 exact absurd h6 (by decide)
structure WrTo (g B:Nat) (v:Value) (out:List UInt8) (w:World) (v':Value) (w':World):Prop where
 r:WrR g B v' out w'
 f:Frm (fun k=>k=g∨v.ownBlock=some k) w w'
 o:∀b,v'.ownBlock=some b→v.ownBlock=some b∨w.heap.size≤b
theorem WrTo.refl {g B:Nat} {v:Value} {out:List UInt8} {w:World} (h:WrR g B v out w):WrTo g B v out w v w:=⟨h,Frm.refl _ _,fun b hb=>.inl hb⟩
theorem WrTo.then_ {g B:Nat} {v v1 v2:Value} {o1 o2:List UInt8} {w w1 w2:World} (h:WrTo g B v o1 w v1 w1) (k:WrTo g B v1 o2 w1 v2 w2):WrTo g B v o2 w v2 w2:=by
 have hs:=h.f.size
 refine⟨k.r,⟨k.f.os.trans h.f.os,k.f.tape.trans h.f.tape,k.f.output.trans h.f.output,Nat.le_trans hs k.f.size,fun b hb hn => ?_⟩,fun b hb => ?_⟩
 ·refine(k.f.block b (by omega) (fun hc => ?_)).trans (h.f.block b hb hn)
  rcases hc with h1|h1
  ·exact hn (.inl h1)
  ·rcases h.o b h1 with h2|h2
   ·exact hn (.inr h2)
   ·omega
 ·rcases k.o b hb with h1|h1
  ·exact h.o b h1
  ·exact .inr (by omega)
theorem WrR.push {g B:Nat} {v v':Value} {out add:List UInt8} {w w3:World} {o:Obj} (h:WrR g B v out w) (hown:w3.ownsRow B 5 1 v' (out.length+add.length) (out.map u8c++add.map u8c)) (hg:(w.alloc o).grownBy w3 v.ownBlock) (ho:∀b,v'.ownBlock=some b→v.ownBlock=some b∨w.heap.size≤b) :
  WrTo g B v (out++add) w v' (w3.setCell ⟨g,0,none⟩ v'):=by
 have hlt:=h.own.lt
 have lo:=h.lo
 have hi:=h.hi
 have hgl:=h.bx.lt
 have hsz:w.heap.size≤w3.heap.size:=by have:=hg.size;rw[World.size_alloc] at this;omega
 have hk:∀k,k<w.heap.size→v.ownBlock≠some k→w3.heap[k]? = w.heap[k]? := fun k hk hn =>
  (hg.block k (by rw[World.size_alloc];omega) (fun e=>hn e.symm)).trans (((Below.refl w.heap.size w).alloc (Nat.le_refl _) o).block k hk)
 have hoth:∀k,k≠g→(w3.setCell ⟨g,0,none⟩ v').heap[k]? = w3.heap[k]? := fun k hk=>heap_setCell_other w3 ⟨g,0,none⟩ k v' (fun e=>hk (by simpa using e))
 have hng:v.ownBlock≠some g:=h.lo
 have hx3:Bx g #[v] 132 w3:=(hk g hgl hng).trans h.bx
 refine⟨⟨hx3.set 0 v',?_,by simp;omega⟩,⟨hg.os,hg.tape,hg.output,by simpa using hsz,fun k hkl hn => ?_⟩,ho⟩
 ·rw[List.length_append,List.map_append]
  obtain⟨hl,h2|⟨b,cap,cur,hv,hb,hh,r⟩⟩:=hown
  ·exact⟨hl,.inl h2⟩
  ·exact⟨hl,.inr ⟨b,cap,cur,hv,hb,(hoth b (bx_ne hx3 hh)).trans hh,r⟩⟩
 ·exact(hoth k (fun e=>hn (.inl e))).trans (hk k hkl (fun e=>hn (.inr e)))
theorem WrR.push2 {g B:Nat} {v v':Value} {out add:List UInt8} {w w3:World} (h:WrR g B v out w) (hown:w3.ownsRow B 5 1 v' (out.length+add.length) (out.map u8c++add.map u8c)) (hg:w.grownBy w3 v.ownBlock) (ho:∀b,v'.ownBlock=some b→v.ownBlock=some b∨w.heap.size≤b) :
  WrTo g B v (out++add) w v' (w3.setCell ⟨g,0,none⟩ v'):=by
 have hlt:=h.own.lt
 have lo:=h.lo
 have hi:=h.hi
 have hgl:=h.bx.lt
 have hsz:w.heap.size≤w3.heap.size:=hg.size
 have hk:∀k,k<w.heap.size→v.ownBlock≠some k→w3.heap[k]? = w.heap[k]? := fun k hk hn =>
  hg.block k hk (fun e=>hn e.symm)
 have hoth:∀k,k≠g→(w3.setCell ⟨g,0,none⟩ v').heap[k]? = w3.heap[k]? := fun k hk=>heap_setCell_other w3 ⟨g,0,none⟩ k v' (fun e=>hk (by simpa using e))
 have hng:v.ownBlock≠some g:=h.lo
 have hx3:Bx g #[v] 132 w3:=(hk g hgl hng).trans h.bx
 refine⟨⟨hx3.set 0 v',?_,by simp;omega⟩,⟨hg.os,hg.tape,hg.output,by simpa using hsz,fun k hkl hn => ?_⟩,ho⟩
 ·rw[List.length_append,List.map_append]
  obtain⟨hl,h2|⟨b,cap,cur,hv,hb,hh,r⟩⟩:=hown
  ·exact⟨hl,.inl h2⟩
  ·exact⟨hl,.inr ⟨b,cap,cur,hv,hb,(hoth b (bx_ne hx3 hh)).trans hh,r⟩⟩
 ·exact(hoth k (fun e=>hn (.inl e))).trans (hk k hkl (fun e=>hn (.inr e)))
def shN:Nat→Int→Int
 | 0,n=>n
 | k+1,n=>shN k n/256
def lowB (n:Int) (k:Nat):List UInt8:=(List.range k).map fun i=>u8of (shN i n)
theorem lowB_len (n:Int) (k:Nat):(lowB n k).length=k:=by unfold lowB;simp
theorem lowB_snoc (n:Int) (k:Nat):lowB n (k+1)=lowB n k++[u8of (shN k n)]:=by unfold lowB;rw[List.range_succ,List.map_append];rfl
set_option maxRecDepth 100000 in
set_option maxHeartbeats 8000000 in
theorem wlow_any {g B:Nat} {v:Value} {out:List UInt8} (n:Int) (size:Nat) (hsz:size≤8) (w:World) (h:WrR g B v out w) (hN:out.length≤100000000) :
  Calls Tryz.prog 79 #[.pointer (some ⟨g,0,none⟩),.int .i64 n,.int .i64 (size:Int)] w fun e w'=>e=.returned (.tuple #[])∧∃v',WrTo g B v (out++lowB n size) w v' w':=by
 obtain⟨i0,hi,hz0,hz1,hz2⟩:=info_parts infoU8b
 have H:=Lib.hid h
 clear h
 go_enter Tryz.func79,Tryz.ntmps79
 go_wp2_with fail
 go_loopw [1,7] (fun nv iv wr=>∃(k:Nat) (vk:Value),k≤size∧iv=.int .i64 (k:Int)∧nv=.int .i64 (shN k n)∧Hid (WrTo g B v (out++lowB n k) w vk wr)) (fun _ iv _=>size-(intOf iv).toNat)
 case atStart=>exact⟨0,v,Nat.zero_le _,rfl,rfl,by unfold Hid lowB;simpa using WrTo.refl H.out⟩
 case round =>
  obtain⟨k,vk,hk,rfl,rfl,ht⟩:=hrel
  by_cases hlt:k<size
  ·have hx:=ht.out.r.bx
   have hown:=ht.out.r.own
   obtain⟨Av,nv,cv,rfl⟩:=own_form hown
   have k0:=hx.cell 0 (u:=.slice Av nv cv) rfl
   have f0:=hx.free 0
   have gl:=hx.lt
   have hBs:=ht.out.r.hi
   have hglo:=ht.out.r.lo
   have hlo:=hown.lt
   obtain⟨m,hm⟩:∃m,(out++lowB n k).length=m:=⟨_,rfl⟩
   have hm1:m≤100000008:=by rw[←hm,List.length_append,lowB_len];omega
   rw[hm] at hown
   have HM:=Lib.hid hm
   have HSN:Hid (lowB n (k+1)=lowB n k++[u8of (shN k n)]):=lowB_snoc n k
   have HU:Hid ([u8of (shN k n)].map u8c=[.int .u8 (shN k n%256)]):=by unfold Hid u8c;simp only[List.map_cons,List.map_nil,u8of_nat]
   have HSH:Hid (shN (k+1) n=shN k n/256):=rfl
   obtain⟨x,hx0⟩:∃x,shN k n=x:=⟨_,rfl⟩
   rw[hx0] at HSN HU HSH ⊢
   have HOWN:=Lib.hid hown
   clear hown hx hm hx0
   go_wp2_with (at_builtin;(refine wpList_append_lies _ rfl _ _ 68 rfl B 5 i0 (.int .u8 0) 1 1 Tryz.underlying68 hi hz0 hz1 hz2 rfl (by decide) _ _ _ rfl (HOWN.out.alloc _) ⟨wr.heap.size,0,none⟩ 1 1 [.int .u8 (x%256)] rfl rfl (cell_one_new _ _ _) ?c2 (by decide) ?c3 ?c4 ?c5 _ rfl ?_))
   case c2=>intro u hu;simp only[List.mem_cons,List.not_mem_nil,or_false] at hu;rcases hu with rfl;rfl
   case c3=>unfold maxLen;omega
   case c4=>omega
   case c5=>simp;omega
   intro gg cap w3 hown3 hgrow hor hgg
   have hown4:w3.ownsRow B 5 1 (.slice (some ⟨gg,0,none⟩) (m+1) cap) ((out++lowB n k).length+[u8of x].length) ((out++lowB n k).map u8c++[u8of x].map u8c):=by rw[HM.out,HU.out,List.map_append,List.append_assoc];exact hown3
   have hoo:∀b,(Value.slice (some ⟨gg,0,none⟩) (m+1) cap).ownBlock=some b→(Value.slice Av nv cv).ownBlock=some b∨wr.heap.size≤b:=fun b hb=>by
    have:gg=b:=by simpa [Value.ownBlock] using hb
    subst this
    rcases hor with h1|h1
    ·exact .inl h1
    ·exact .inr (by rw[h1];first|omega|simp)
   have R:=Lib.hid (ht.out.then_ (ht.out.r.push hown4 hgrow hoo))
   have kg:w3.cell? ⟨g,0,none⟩=some (.slice Av nv cv):=by
    have hb:=hgrow.block g (by rw[World.size_alloc];omega) (by intro e;exact hglo e.symm)
    exact(World.cell?_of_block (w:=wr.alloc _) (a:=⟨g,0,none⟩) hb).trans ((((Below.refl wr.heap.size wr).alloc (Nat.le_refl _) _).cell (p:=⟨g,0,none⟩) gl).trans k0)
   have fg:w3.frozen? ⟨g,0,none⟩=false:=by
    have hx3:Bx g #[.slice Av nv cv] 132 w3:=(hgrow.block g (by rw[World.size_alloc];omega) (by intro e;exact hglo e.symm)).trans ((((Below.refl wr.heap.size wr).alloc (Nat.le_refl _) _).block g gl).trans ht.out.r.bx)
    exact hx3.free 0
   have gl3:g<w3.heap.size:=by have:=hgrow.size;rw[World.size_alloc] at this;omega
   clear hown3 hown4 hgrow hoo hor hlo k0 f0
   go_wp2
   go_roundw
   case rel=>exact⟨k+1,_,hlt,by first|rfl|go_num,by rw[HSH.out],by unfold Hid;rw[HSN.out,←List.append_assoc];exact R.out⟩
   case measure=>simp[intOf];omega
  ·have hks:k=size:=by omega
   subst hks
   go_wp2
   go_end0
   exact⟨rfl,_,ht.out⟩
set_option maxRecDepth 100000 in
set_option maxHeartbeats 8000000 in
theorem wbytes_any {g B:Nat} {v:Value} {out:List UInt8} (ga oa ca:Nat) (add:List UInt8) (w:World) (h:WrR g B v out w) (ha:BsA w ga oa add) (h0:0<add.length) (hN:out.length+add.length≤100000000) :
  Calls Tryz.prog 80 #[.pointer (some ⟨g,0,none⟩),.slice (some ⟨ga,oa,none⟩) add.length ca] w fun e w'=>e=.returned (.tuple #[])∧∃v',WrTo g B v (out++add) w v' w':=by
 obtain⟨i0,hi,hz0,hz1,hz2⟩:=info_parts infoU8b
 have H:=Lib.hid h
 obtain⟨Av,nv,cv,rfl⟩:=own_form h.own
 have k0:=h.bx.cell 0 (u:=.slice Av nv cv) rfl
 have f0:=h.bx.free 0
 have gl:=h.bx.lt
 have hBs:=h.hi
 have hglo:=h.lo
 have hlo:=h.own.lt
 have HOWN:=Lib.hid h.own
 have HX:=Lib.hid (ha.news (Below.refl _ _))
 have HONE:=Lib.hid (u8cells_one add)
 obtain⟨m,hm⟩:∃m,out.length=m:=⟨_,rfl⟩
 obtain⟨p,hp⟩:∃p,add.length=p:=⟨_,rfl⟩
 have HL2:Hid ((add.map u8c).length=p*1):=by unfold Hid;rw[List.length_map,hp];omega
 rw[hm] at HOWN hN
 rw[hp] at h0 hN ⊢
 have HM:=Lib.hid hm
 have HP:=Lib.hid hp
 have hal:=ha.1
 clear h ha hm hp
 go_enter Tryz.func80,Tryz.ntmps80
 go_wp2_with (at_builtin;(refine wpList_append_lies _ rfl _ _ 68 rfl B 5 i0 (.int .u8 0) 1 1 Tryz.underlying68 hi hz0 hz1 hz2 rfl (by decide) _ _ _ rfl HOWN.out ⟨ga,oa,none⟩ p ca (add.map u8c) rfl HL2.out HX.out HONE.out h0 ?c3 ?c4 ?c5 _ rfl ?_))
 case c3=>unfold maxLen;omega
 case c4=>omega
 case c5=>omega
 intro gg cap w3 hown3 hgrow hor hgg
 have hown4:w3.ownsRow B 5 1 (.slice (some ⟨gg,0,none⟩) (m+p) cap) (out.length+add.length) (out.map u8c++add.map u8c):=by rw[HM.out,HP.out];exact hown3
 have hoo:∀b,(Value.slice (some ⟨gg,0,none⟩) (m+p) cap).ownBlock=some b→(Value.slice Av nv cv).ownBlock=some b∨w.heap.size≤b:=fun b hb=>by
  have:gg=b:=by simpa [Value.ownBlock] using hb
  subst this
  rcases hor with h1|h1
  ·exact .inl h1
  ·exact .inr (by omega)
 have R:=Lib.hid (H.out.push2 hown4 hgrow hoo)
 have hb3:=hgrow.block g gl (by intro e;exact hglo e.symm)
 have kg:w3.cell? ⟨g,0,none⟩=some (.slice Av nv cv):=(World.cell?_of_block (w:=w) (a:=⟨g,0,none⟩) hb3).trans k0
 have hx3:Bx g #[.slice Av nv cv] 132 w3:=hb3.trans H.out.bx
 have fg:=hx3.free 0
 have gl3:=hx3.lt
 clear hown3 hown4 hgrow hoo hor hlo k0 f0 hb3 hx3
 go_wp2
 go_end0
 exact⟨rfl,_,R.out⟩
def numB (l:List Int):List UInt8:=l.flatMap fun n=>lowB n 8
theorem numB_snoc (l:List Int) (k:Nat) (hk:k<l.length):numB (l.take (k+1))=numB (l.take k)++lowB l[k] 8:=by
 unfold numB;rw[List.take_succ_eq_append_getElem hk,List.flatMap_append];simp
theorem numB_len (l:List Int):(numB l).length=l.length*8:=by
 unfold numB
 induction l with
 | nil=>rfl
 | cons a l ih=>rw[List.flatMap_cons,List.length_append,ih,lowB_len,List.length_cons];omega
set_option maxRecDepth 100000 in
set_option maxHeartbeats 8000000 in
theorem wnumbers_any {g B:Nat} {v:Value} {out:List UInt8} (ga oa ca:Nat) (l:List Int) (w:World) (h:WrR g B v out w) (hgl:ga<w.heap.size) (hc:∀j (hj:j<l.length),w.cell? ⟨ga,oa+j,none⟩=some (.int .i64 l[j])) (hg:ga≠g) (hgo:v.ownBlock≠some ga) (hN:out.length≤1000000) (hl:l.length≤1000) :
  Calls Tryz.prog 77 #[.pointer (some ⟨g,0,none⟩),.slice (some ⟨ga,oa,none⟩) l.length ca] w fun e w'=>e=.returned (.tuple #[])∧∃v',WrTo g B v (out++numB l) w v' w':=by
 have H:=Lib.hid h
 have HC:=Lib.hid hc
 obtain⟨n,hn⟩:∃n,l.length=n:=⟨_,rfl⟩
 have HN:=Lib.hid hn
 rw[hn] at hl ⊢
 clear h hc hn
 go_enter Tryz.func77,Tryz.ntmps77
 go_wp2_with fail
 go_loopw [8] (fun iv wr=>∃(k:Nat) (vk:Value),k≤n∧iv=.int .i64 (k:Int)∧Hid (WrTo g B v (out++numB (l.take k)) w vk wr)) (fun iv _=>n-(intOf iv).toNat)
 case atStart=>exact⟨0,v,Nat.zero_le _,rfl,by unfold Hid numB;simpa using WrTo.refl H.out⟩
 case round =>
  obtain⟨k,vk,hk,rfl,ht⟩:=hrel
  by_cases hlt:k<n
  ·have hkl:k<l.length:=by rw[HN.out];exact hlt
   have c0:=(ht.out.f.cell (a:=⟨ga,oa+k,none⟩) hgl (fun e=>by rcases e with e|e;exact hg e;exact hgo e)).trans (HC.out k hkl)
   have hgw:ga<wr.heap.size:=Nat.lt_of_lt_of_le hgl ht.out.f.size
   have HS:=Lib.hid (numB_snoc l k hkl)
   have hll:(out++numB (l.take k)).length≤100000000:=by rw[List.length_append,numB_len,List.length_take];omega
   have hw:=wlow_any l[k] 8 (by omega) wr ht.out.r hll
   obtain⟨x,hx⟩:∃x,l[k]=x:=⟨_,rfl⟩
   rw[hx] at c0 HS hw
   have HW:=Lib.hid hw
   clear hx hll hw
   go_wp2_with fail
   refine HW.out.mono ?_
   rintro e w2 ⟨rfl,v2,hr⟩
   have R:=Lib.hid (ht.out.then_ hr)
   clear HW hr c0
   go_wp2
   go_roundw
   case rel=>exact⟨k+1,v2,hlt,by first|rfl|go_num,by unfold Hid;rw[HS.out,←List.append_assoc];exact R.out⟩
   case measure=>simp[intOf];omega
  ·have hkn:l.take k=l:=List.take_of_length_le (by rw[HN.out];omega)
   rw[hkn] at ht
   clear hkn
   go_wp2
   go_end0
   exact⟨rfl,_,ht.out⟩
end Go.Proofs.YtgmehlgfilpleaaGreatDoor
