/-
  Contracts: a string of bytes is sealed; the image of a database (the reference's writing of an image).
-/
import Derived.Test.YtgmehlgfilpleaaGreatDoorRbC
import Derived.Test.YtgmehlgfilpleaaGreatDoorMG03
import Derived.Test.YtgmehlgfilpleaaGreatDoorMG07
namespace Go.Proofs.YtgmehlgfilpleaaGreatDoor
open Go.RowKit
set_option linter.unusedVariables false
set_option linter.unusedSimpArgs false
theorem SrcB.of_bsv {w W:World} {v:Value} {bs:List UInt8} (h:BsV w v bs) (hb:Below w.heap.size w W):SrcB bs v W:=by
 obtain⟨A,c,rfl,_,_,hx⟩:=h
 refine⟨A,c,rfl,fun h0 => ?_⟩
 obtain⟨g,o,rfl,hb2⟩:=hx h0
 exact⟨_,rfl,hb2.news hb⟩
theorem RowB.new {bs:List UInt8} {v:Value} {w w':World} (h:RowB w.heap.size bs v w') (h0:0<bs.length) (hb:Below w.heap.size w w'):BsNew bs w v w':=by
 have h2:=h
 obtain⟨hl,⟨rfl,h3⟩|⟨g,cap,cur,rfl,_⟩⟩:=h2
 ·omega
 ·exact BsNew.of_own h hb
theorem RowB.bsv {B:Nat} {bs:List UInt8} {v:Value} {w:World} (h:RowB B bs v w) (h0:0<bs.length):BsV w v bs:=by
 have hcs:=@World.ownsRow.cells _ _ _ _ _ _ _ h
 obtain⟨hl,⟨rfl,h3⟩|⟨g,cap,cur,rfl,_,hh,h4,h5,_⟩⟩:=h
 ·omega
 ·refine⟨_,cap,rfl,h4,h5,fun _=>⟨g,0,rfl,lt_heap hh,fun j b hb => ?_⟩⟩
  have:=hcs (g:=g) rfl j (u8c b) (by rw[List.getElem?_map,hb];rfl)
  rwa [Addr.add_lit] at this
theorem SrcB.below {src:List UInt8} {v:Value} {w w':World} (h:BsV w v src) (hb:Below w.heap.size w w'):SrcB src v w':=SrcB.of_bsv h hb
theorem RowB.lit0 (B:Nat) (w:World) (hB:B≤w.heap.size):RowB B [] (.slice (some ⟨w.heap.size,0,none⟩) 0 0) (w.alloc (.cells #[] 5)) :=
 World.ownsRow_lit (base:=B) (e:=5) (size:=1) w #[] 0 hB (by unfold maxLen;omega) rfl
theorem fourL_arr (x:Int) (h0:0≤x) (h1:x<4294967296):((fourL x).map u8c).toArray=fourC x:=by
 rw[four_cells x h0 h1]
 unfold fourC
 rw[show x/16777216%256=x/16777216 by omega]
set_option maxRecDepth 100000 in
set_option maxHeartbeats 8000000 in
theorem rseal_any (v:Value) (bs:List UInt8) (w:World) (h:BsV w v bs) (hN:bs.length≤1000000) :
  Calls Tryz.prog 161 #[v] w fun e w'=>∃r,e=.returned r∧BsNew (sealL bs) w r w':=by
 have HV:=Lib.hid h
 obtain⟨A,c,rfl,hc,hm,-⟩:=h
 have hba:Below w.heap.size w (w.alloc (.cells #[] 5)):=(Below.refl _ _).alloc (Nat.le_refl _) _
 have HE:=Lib.hid (RowB.lit0 w.heap.size w (Nat.le_refl _))
 have HS:=Lib.hid (SrcB.of_bsv HV.out hba)
 have hbd:=crcF_bd bs
 obtain⟨n,hn⟩:∃n,bs.length=n:=⟨_,rfl⟩
 have HN:=Lib.hid hn
 rw[hn] at HV HS hc hN ⊢
 have HA:=Lib.hid hba
 have HL:Hid ((sealL bs).length=n+4):=by unfold Hid sealL;rw[List.length_append,hn];rfl
 have HBD:=Lib.hid hbd
 clear hn hba hbd
 go_enter Tryz.func161,Tryz.ntmps161
 go_wp2_with (at_builtin;go_loud (refine wpList_appB rfl _ _ rfl w.heap.size [] bs _ _ rfl HE.out rfl HS.out ?d1 ?d2 bs n (List.nil_append _) HN.out ?_))
 case d1=>rw[HN.out];simp;omega
 case d2=>exact HA.out.size
 intro A2 c2 w2 R2 G2
 have B2:Hid (Below w.heap.size w w2):=HA.out.trans G2.out.be
 have V2:=Lib.hid (HV.out.below B2.out)
 have R2:=R2
 clear G2 HS HE HA
 go_wp2_with fail
 refine(rcsum_any _ bs _ V2.out).mono ?_
 rintro e w3 ⟨rfl,rfl⟩
 go_wp2_with fail
 refine(rfour_any (crcF bs) _ HBD.out.1 HBD.out.2).mono ?_
 rintro e w3 ⟨rfl,hw3⟩
 have hb3:Below w2.heap.size w2 w3:=by rw[hw3];exact(Below.refl _ _).alloc (Nat.le_refl _) _
 have S3:Hid (SrcB (fourL (crcF bs)) (.slice (some ⟨w2.heap.size,0,none⟩) 4 4) w3):=by
  have h:=SrcB.lit w2 (fourL (crcF bs))
  rw[fourL_arr _ HBD.out.1 HBD.out.2,←hw3] at h
  exact h
 have R3:=Lib.hid (R2.out.below hb3)
 have B3:=Lib.hid (Below.then_ B2.out hb3)
 clear hw3 hb3 R2 V2 B2
 go_wp2_with (at_builtin;go_loud (refine wpList_appB rfl _ _ rfl w.heap.size bs (fourL (crcF bs)) _ _ rfl R3.out rfl S3.out ?d1 ?d2 (sealL bs) (n+4) rfl HL.out ?_))
 case d1=>rw[HN.out,show(fourL (crcF bs)).length=4 by rfl];omega
 case d2=>exact B3.out.size
 intro A4 c4 w4 R4 G4
 have HF:=Lib.hid (R4.out.new (by rw[HL.out];omega) (B3.out.trans G4.out.be))
 clear R3 S3 B3 R4 G4
 go_wp2
 go_ret
 exact⟨_,rfl,HF.out⟩
def OutV (B:Nat) (out:List UInt8) (v:Value) (w:World):Prop:=RowB B out v w∨(∃g,v=.slice (some ⟨g,0,none⟩) out.length out.length∧BsA w g 0 out)
theorem OutV.below {B:Nat} {out:List UInt8} {v:Value} {w w':World} (h:OutV B out v w) (hb:Below w.heap.size w w'):OutV B out v w':=by
 rcases h with h|⟨g,rfl,hg⟩
 ·exact .inl (h.below hb)
 ·exact .inr ⟨g,rfl,hg.below hb⟩
section
variable {w:World} {ops:Array Oper} {rest:List Oper} {o:Oper} {a:Act} {Q:Exit→Act→World→Prop}
theorem wpList_appV (hgd:o.guard=none) (s x:Operand) (ho:o.op=.call {callee:=.builtin .append,args := #[s,x],argTypes := #[68,68]})
  (B:Nat) (out src:List UInt8) (v y:Value) (hs:a.eval s=v) (hO:OutV B out v w) (hx:a.eval x=y) (hS:SrcB src y w) (h0:0<src.length) (hN:out.length+src.length≤100000000) (hB:B≤w.heap.size) (res:List UInt8) (hres:out++src=res)
  (h:∀A c w',Hid (RowB B res (.slice A res.length c) w')→Hid (Fw B w w')→wpList Tryz.prog ops Q rest (a.put o.dst (.slice A res.length c)) w'):wpList Tryz.prog ops Q (o::rest) a w:=by
 rcases hO with hO|⟨g,rfl,hg⟩
 ·exact wpList_appB hgd s x ho B out src v y hs hO hx hS hN hB res res.length hres rfl h
 ·obtain⟨i0,hi,hz0,hz1,hz2⟩:=info_parts infoU8b
  obtain⟨A,c,rfl,hsrc⟩:=hS
  obtain⟨ad,rfl,hcl⟩:=hsrc h0
  refine wpList_append_full _ hgd s x 68 ho B 5 i0 (.int .u8 0) 1 1 Tryz.underlying68 hi hz0 hz1 hz2 rfl ⟨g,0,none⟩ out.length (out.map u8c) hs (by simp) (hg.news (Below.refl _ _)) ad src.length c (src.map u8c) hx (by simp) hcl h0 (by unfold maxLen;omega) (by omega) hB ?_
  intro v' w' hown hgrow _
  have hown2:RowB B (out++src) v' w':=by
   unfold RowB;rw[List.length_append,List.map_append];exact hown
  obtain⟨A',c',rfl⟩:=hown2.form
  subst hres
  exact h A' c' w' hown2 ((Fw.refl B w).call ((Below.refl _ _).grown hgrow (Nat.le_refl _) (fun k hk=>by cases hk)) hB)
end
theorem secsB_take (D:DbD) {k:Nat} {c:List UInt8} (hc:(conB D)[k]? = some c):secsB 1 ((conB D).take (k+1))=secsB 1 ((conB D).take k)++secB (UInt8.ofNat (k+1)) c:=by
 unfold conB at hc ⊢
 match k,hc with
 | 0,hc=>cases hc;simp[secsB]
 | 1,hc=>cases hc;simp[secsB]
 | 2,hc=>cases hc;simp[secsB]
 | 3,hc=>cases hc;simp[secsB]
 | k+4,hc=>simp at hc
theorem conB_len (D:DbD):(conB D).length=4:=rfl
def ConR (B:Nat) (D:DbD) (g:Nat) (w:World):Prop:=∀k c,(conB D)[k]? = some c→∃A cp,w.cell? ⟨g,k,none⟩=some (.slice A c.length cp)∧RowB B c (.slice A c.length cp) w∧0<c.length
theorem ConR.below {B:Nat} {D:DbD} {g:Nat} {w w':World} (h:ConR B D g w) (hg:g<w.heap.size) (hb:Below w.heap.size w w'):ConR B D g w':=fun k c hc=>by
 obtain⟨A,cp,h1,h2,h3⟩:=h k c hc
 exact⟨A,cp,(hb.cell (p:=⟨g,k,none⟩) hg).trans h1,h2.below hb,h3⟩
theorem ConPost.rows {D:DbD} {w w':World} {e:Ending} (h:ConPost D w e w'):∃g,e=.returned (.slice (some ⟨g,0,none⟩) 4 4)∧ConR w.heap.size D g w'∧g<w'.heap.size∧Below w.heap.size w w':=by
 obtain⟨g,na,nb,nc,nd,ca,cb,cc,cd,Aa,Ab,Ac,Ad,he,hx,h1,h2,h3,h4,hb⟩:=h
 refine⟨g,he,fun k c hc => ?_,hx.lt,hb⟩
 have hl:∀{bs:List UInt8} {A:Option Addr} {n cp:Nat},RowB w.heap.size bs (.slice A n cp) w'→n=bs.length:=fun h=>by
  obtain⟨A',c',e⟩:=h.form
  injection e
 unfold conB at hc
 match k,hc with
 | 0,hc=>cases hc;have e:=hl h1;subst e;exact⟨Aa,ca,hx.cell 0 rfl,h1,by unfold hdB;rw[txtT_one,List.length_append,tx1_len];omega⟩
 | 1,hc=>cases hc;have e:=hl h2;subst e;exact⟨Ab,cb,hx.cell 1 rfl,h2,by rw[List.length_append,lowB_len];omega⟩
 | 2,hc=>cases hc;have e:=hl h3;subst e;exact⟨Ac,cc,hx.cell 2 rfl,h3,by rw[List.length_append,lowB_len];omega⟩
 | 3,hc=>cases hc;have e:=hl h4;subst e;exact⟨Ad,cd,hx.cell 3 rfl,h4,by rw[List.length_append,lowB_len];omega⟩
 | k+4,hc=>simp at hc
theorem magic_cells (w:World):BsA (w.alloc (.cells #[.int .u8 70,.int .u8 68,.int .u8 66,.int .u8 49] 5 (4,5))) w.heap.size 0 magicL:=by
 have h4:=heap_alloc_new w (.cells #[.int .u8 70,.int .u8 68,.int .u8 66,.int .u8 49] 5 (4,5))
 refine⟨heap_lt h4,fun j b hb => ?_⟩
 have h7:(w.alloc (.cells #[.int .u8 70,.int .u8 68,.int .u8 66,.int .u8 49] 5 (4,5))).cell? ⟨w.heap.size,j,none⟩=(#[.int .u8 70,.int .u8 68,.int .u8 66,.int .u8 49]:Array Value)[j]? := World.cell?_alloc_mark w _ _ _ j
 rw[Nat.zero_add,h7]
 match j,hb with
 | 0,hb=>simp[magicL] at hb;subst hb;rfl
 | 1,hb=>simp[magicL] at hb;subst hb;rfl
 | 2,hb=>simp[magicL] at hb;subst hb;rfl
 | 3,hb=>simp[magicL] at hb;subst hb;rfl
 | j+4,hb=>simp[magicL] at hb
set_option maxRecDepth 100000 in
set_option maxHeartbeats 16000000 in
theorem rbytes_any (D:DbD) (f a p:Value) (w:World) (h:DbV w f a p D) (hdb:DbB D) (hN:(dbB D).length≤900000) :
  Calls Tryz.prog 83 #[.agg (dbC D.hd f a p).toArray] w fun e w'=>∃r,e=.returned r∧BsNew (sealL (dbB D)) w r w':=by
 have HH:=Lib.hid h
 have HDB:=Lib.hid hdb
 have HL:=Lib.hid hN
 obtain⟨w1,hw1⟩:∃W,w.alloc (.cells (dbA D.hd f a p) 30)=W:=⟨_,rfl⟩
 have B1:Hid (Below w.heap.size w w1):=by rw[←hw1];exact(Below.refl _ _).alloc (Nat.le_refl _) _
 obtain⟨q,hq⟩:∃q,w.heap.size=q:=⟨_,rfl⟩
 have X1:Hid (Bx q (dbA D.hd f a p) 30 w1):=by rw[←hw1,←hq];exact Bx.last w _ _
 obtain⟨w2,hw2⟩:∃W,w1.alloc (.cells #[.int .u8 70,.int .u8 68,.int .u8 66,.int .u8 49] 5 (4,5))=W:=⟨_,rfl⟩
 have hb2:Below w1.heap.size w1 w2:=by rw[←hw2];exact(Below.refl _ _).alloc (Nat.le_refl _) _
 have kc:=Lib.run_convert_bytes_const (P:=Tryz.prog) w1 68 5 #[.int .u8 70,.int .u8 68,.int .u8 66,.int .u8 49] 4 4 Tryz.underlying68 Tryz.underlying5
 obtain⟨gm,hgm⟩:∃g,w1.heap.size=g:=⟨_,rfl⟩
 have M2:Hid (BsA w2 gm 0 magicL):=by rw[←hw2,←hgm];exact magic_cells w1
 have B2:=Lib.hid (Below.then_ B1.out hb2)
 have X2:=Lib.hid (X1.out.via hb2)
 have hct:=rcontents_any D f a p w2 (HH.out.below B2.out) hdb hN
 rw[dbA_eq] at hct ⊢
 unfold dbA at hct ⊢
 unfold dbA at hw1
 have HW1:=Lib.hid hw1
 have HW2:=Lib.hid hw2
 have HQ:=Lib.hid hq
 have HGM:=Lib.hid hgm
 have HCT:=Lib.hid hct
 clear h hdb hN hw1 hq hw2 hb2 hgm hct B1 X1
 go_enter Tryz.func83,Tryz.ntmps83
 go_upto_region 1 with fail
 rw[HW1.out,HQ.out]
 clear HW1
 go_upto_region 2 with fail
 rw[HW2.out,HGM.out]
 clear HW2 kc HGM
 obtain⟨⟨x0,x1,x2,x3,x4,x5,x6,x7,x8⟩,_⟩:=Bx.cells9 X2.out
 have xl:=X2.out.lt
 go_wp2_with fail
 refine HCT.out.mono ?_
 rintro e w3 hcp
 obtain⟨g,rfl,hcr,hgl,hb3⟩:=hcp.rows
 have R3:=Lib.hid hcr
 have GL:=Lib.hid hgl
 have B3:=Lib.hid (Below.then_ B2.out hb3)
 have M3:Hid (OutV w3.heap.size magicL (.slice (some ⟨gm,0,none⟩) 4 4) w3):=.inr ⟨gm,rfl,M2.out.below hb3⟩
 clear hcp hcr hgl hb3 HCT M2 B2 X2 x0 x1 x2 x3 x4 x5 x6 x7 x8 xl
 go_wp2
 go_loopw [3,11] (fun v iv wr=>∃(k:Nat) (out:List UInt8) (Av:Option Addr) (cv:Nat),k≤4∧iv=.int .i64 (k:Int)∧v=.slice Av out.length cv∧Hid (out=magicL++secsB 1 ((conB D).take k))∧Hid (OutV w3.heap.size out (.slice Av out.length cv) wr)∧Hid (Below w3.heap.size w3 wr)∧Hid (k=0∨RowB w3.heap.size out (.slice Av out.length cv) wr)) (fun _ iv _=>4-(intOf iv).toNat)
 case atStart=>exact⟨0,magicL,_,_,Nat.zero_le _,rfl,rfl,by unfold Hid;rw[List.take_zero];rfl,M3.out,Below.refl _ _,.inl rfl⟩
 case round =>
 clear M3
 obtain⟨k,out,Av,cv,hk,rfl,rfl,ho,hO,hb,hr⟩:=hrel
 by_cases hlt:k<4
 ·have hki:(k:Int)<4:=by omega
  obtain⟨c,hc⟩:∃c,(conB D)[k]? = some c:=⟨_,List.getElem?_eq_getElem (by rw[conB_len];exact hlt)⟩
  obtain⟨A,cp,hcell3,hrow3,hpos⟩:=R3.out k c hc
  have hcell:=(hb.out.cell (p:=⟨g,k,none⟩) GL.out).trans hcell3
  have hlen:out.length+(5+c.length)≤900000:=by
   have h1:=HL.out
   have h2:=secsB_take D hc
   have h3:(dbB D)=magicL++secsB 1 ((conB D).take (k+1))++secsB (k+2) ((conB D).drop (k+1)):=by
    unfold dbB conB
    match k,hlt with
    | 0,_=>simp[secsB]
    | 1,_=>simp[secsB]
    | 2,_=>simp[secsB]
    | 3,_=>simp[secsB]
   rw[h3,h2] at h1
   have h4:=congrArg List.length ho.out
   simp only[List.length_append,secB_len] at h1 h4
   omega
  have htag:u8b (k+1)=UInt8.ofNat (k+1):=by
   match k,hlt with
   | 0,_=>decide
   | 1,_=>decide
   | 2,_=>decide
   | 3,_=>decide
  have HOUT2:Hid (magicL++secsB 1 ((conB D).take (k+1))=((out++[u8b (k+1)])++lowB (c.length:Int) 4)++c):=by
   unfold Hid
   rw[secsB_take D hc,ho.out,htag];unfold secB;simp only[List.append_assoc]
  have HLEN:=Lib.hid hlen
  have HROW:=Lib.hid hrow3
  have HPOS:=Lib.hid hpos
  have HLT:=Lib.hid hlt
  have S4:=Lib.hid (SrcB.one wr (n:=k+1) (by omega))
  have ba:=(Below.refl wr.heap.size wr).alloc (Nat.le_refl _) (.cells #[.int .u8 (((k+1:Nat)):Int)] 5)
  have O4:=Lib.hid (hO.out.below ba)
  have B4:=Lib.hid (Below.then_ hb.out ba)
  have hcast:(((k+1:Nat)):Int)=(k:Int)+1:=by omega
  rw[hcast] at S4 O4 B4
  have hmod:((k:Int)+1)%256=(k:Int)+1:=by omega
  have hwr:IntKind.u8.wrap ((k:Int)+1)=(k:Int)+1:=by rw[IntKind.wrap_u8];omega
  obtain⟨O5,hO5⟩:∃L,out++[u8b (k+1)]=L:=⟨_,rfl⟩
  have P5:=Lib.hid hO5
  have L5:Hid (O5.length=out.length+1):=by unfold Hid;rw[←hO5,List.length_append];rfl
  clear ho hO hb hr ba hcast hcell3 hrow3 hpos hlen htag hO5 hlt hc hk
  go_wp2_with (at_builtin;go_loud (refine wpList_appV rfl _ _ rfl w3.heap.size out [u8b (k+1)] _ _ rfl O4.out rfl S4.out Nat.zero_lt_one ?d1 ?d2 O5 P5.out ?_))
  case d1=>have:=HLEN.out;(try simp only[List.length_cons,List.length_nil]);omega
  case d2=>exact B4.out.size
  intro A5 c5 w5 R5 G5
  have B5:=Lib.hid (B4.out.trans G5.out.be)
  clear O4 S4 B4 G5 hmod hwr
  go_wp2_with fail
  refine(rlow4_any (c.length:Int) _).mono ?_
  rintro e w6 ⟨A6,c6,rfl,ho6,hb6⟩
  have R6:=Lib.hid (R5.out.below hb6)
  have S6:=Lib.hid ho6.src
  have B6:=Lib.hid (B5.out.trans (hb6.mono B5.out.size))
  obtain⟨O7,hO7⟩:∃L,O5++lowB (c.length:Int) 4=L:=⟨_,rfl⟩
  have P7:=Lib.hid hO7
  have L7:Hid (O7.length=out.length+5):=by unfold Hid;rw[←hO7,List.length_append,lowB_len,L5.out]
  clear ho6 hb6 R5 B5 hO7
  go_wp2_with (at_builtin;go_loud (refine wpList_appB rfl _ _ rfl w3.heap.size O5 (lowB (c.length:Int) 4) _ _ rfl R6.out rfl S6.out ?d1 ?d2 O7 O7.length P7.out rfl ?_))
  case d1=>rw[lowB_len];have:=HLEN.out;have:=L5.out;omega
  case d2=>exact B6.out.size
  intro A7 c7 w7 R7 G7
  have B7:=Lib.hid (B6.out.trans G7.out.be)
  have S7:=Lib.hid (HROW.out.below B7.out).src
  obtain⟨O8,hO8⟩:∃L,O7++c=L:=⟨_,rfl⟩
  have P8:=Lib.hid hO8
  clear R6 S6 B6 G7 hO8
  go_wp2_with (at_builtin;go_loud (refine wpList_appB rfl _ _ rfl w3.heap.size O7 c _ _ rfl R7.out rfl S7.out ?d1 ?d2 O8 O8.length P8.out rfl ?_))
  case d1=>have:=HLEN.out;have:=L7.out;omega
  case d2=>exact B7.out.size
  intro A8 c8 w8 R8 G8
  have B8:=Lib.hid (B7.out.trans G8.out.be)
  have HRS:Hid (O8=magicL++secsB 1 ((conB D).take (k+1))):=by
   unfold Hid;rw[HOUT2.out,←P8.out,←P7.out,←P5.out]
  clear R7 S7 B7 G8
  go_wp2
  go_roundw
  case rel=>exact⟨k+1,O8,_,_,HLT.out,by first|rfl|go_num,rfl,HRS,.inl R8.out,B8,.inr R8.out⟩
  case measure=>simp[intOf];omega
 ·have e:k=4:=by omega
  subst e
  have hout:out=dbB D:=by
   rw[ho.out,List.take_of_length_le (by rw[conB_len];omega)];rfl
  have hrow:RowB w3.heap.size out (.slice Av out.length cv) wr:=by
   rcases hr.out with h|h
   ·exact absurd h (by decide)
   ·exact h
  rw[hout] at hrow ⊢
  have hpos:0<(dbB D).length:=by unfold dbB;rw[List.length_append];have:magicL.length=4:=rfl;omega
  have hse:=Lib.hid (rseal_any _ (dbB D) wr (hrow.bsv hpos) (by have:=HL.out;omega))
  have BW:=Lib.hid (Below.then_ B3.out hb.out)
  clear hout hrow hpos ho hO hr hb hlt hk
  go_wp2_with fail
  refine hse.out.mono ?_
  rintro e wz ⟨r,rfl,hn⟩
  have HF:Hid (BsNew (sealL (dbB D)) w r wz):=by
   obtain⟨gb,cc,h1,h2,h3,h4,h5,h6⟩:=hn
   exact⟨gb,cc,h1,h2,h3,Nat.le_trans BW.out.size h4,h5,Below.then_ BW.out h6⟩
  clear hn hse
  go_wp2
  go_ret
  exact⟨_,rfl,HF.out⟩
end Go.Proofs.YtgmehlgfilpleaaGreatDoor
