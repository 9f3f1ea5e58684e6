/-
  Several texts as one.
-/
import Derived.Test.YtgmehlgfilpleaaGreatDoorBase
import Derived.Deep.AppendLies
import Derived.Deep.RegionHeld3
import Derived.Test.YtgmehlgfilpleaaGreatDoorMG13
namespace Go.Proofs.YtgmehlgfilpleaaGreatDoor
open Go.RowKit
set_option linter.unusedVariables false
set_option linter.unusedSimpArgs false

section
variable {P:Program} (w:World)
end

theorem posP_zero {l:List UInt8} (h:posPErr l≠0):posPLat l=0∧posPLon l=0:=by
 unfold posPLat posPLon;rw[if_neg h,if_neg h];exact⟨rfl,rfl⟩
def PosSPost (s:Sc) (g:Nat) (w:World) (e:Ending) (w':World):Prop :=
 e=.returned (.agg #[.int .i64 (s.tv 0 posPLat),.int .i64 (s.tv 0 posPLon)])∧ScPost (s.tk posPErr) g w w'
theorem PosSPost.mk {s:Sc} {g:Nat} {w w':World} {a b:Int} (h1:s.tv 0 posPLat=a) (h2:s.tv 0 posPLon=b) (h:ScPost (s.tk posPErr) g w w'):PosSPost s g w (.returned (.agg #[.int .i64 a,.int .i64 b])) w':=by
 unfold PosSPost;rw[h1,h2];exact⟨rfl,h⟩
def OwnB (w:World) (b:Nat) (x y:Int) (T:TypeId):Prop:=w.heap[b]? = some (.cells #[.int .i64 x,.int .i64 y] T (0,0))
theorem OwnB.facts {w:World} {b:Nat} {x y:Int} {T:TypeId} (h:OwnB w b x y T):w.cell? ⟨b,0,none⟩=some (.int .i64 x)∧w.cell? ⟨b,1,none⟩=some (.int .i64 y)∧w.frozen? ⟨b,0,none⟩=false∧w.frozen? ⟨b,1,none⟩=false∧b<w.heap.size :=
 ⟨blkCell h 0 rfl,blkCell h 1 rfl,blkFree h 0,blkFree h 1,(Array.getElem?_eq_some_iff.1 h).1⟩
theorem OwnB.off {w w':World} {g b:Nat} {x y:Int} {T:TypeId} (h:OwnB w b x y T) (ho:Off g w w') (hb:b≠g):OwnB w' b x y T :=
 (ho.block b (Array.getElem?_eq_some_iff.1 h).1 (by intro e;injection e with e;exact hb e)).trans h
set_option maxRecDepth 100000 in
set_option maxHeartbeats 1000000 in
theorem takenPos_any (s:Sc) (g:Nat) (w:World) (hts:s.text.length≤140737488351232) (h:ScP w g s) :
  Calls Tryz.prog 314 #[.pointer (some ⟨g,0,none⟩),.func (.func 315) #[] #[]] w (PosSPost s g w):=by
 have hgs:=h.lt
 have H:Hid (ScP ((w.alloc (.cells #[.int .i64 0,.int .i64 0] 23)).alloc (.cells #[.int .i64 0,.int .i64 0] 23)) g s):=(h.alloc _).alloc _
 have O1:OwnB ((w.alloc (.cells #[.int .i64 0,.int .i64 0] 23)).alloc (.cells #[.int .i64 0,.int .i64 0] 23)) w.heap.size 0 0 23 :=
  (((Below.refl _ _).alloc (Nat.le_refl _) _).block w.heap.size (by simp)).trans (heap_alloc_new w _)
 have O2:OwnB ((w.alloc (.cells #[.int .i64 0,.int .i64 0] 23)).alloc (.cells #[.int .i64 0,.int .i64 0] 23)) (w.heap.size+1) 0 0 23:=by
  have:=heap_alloc_new (w.alloc (.cells #[.int .i64 0,.int .i64 0] 23)) (.cells #[.int .i64 0,.int .i64 0] 23)
  rw[show(w.alloc (.cells #[.int .i64 0,.int .i64 0] 23)).heap.size=w.heap.size+1 by simp] at this
  exact this
 have HOFF:Hid (Off g w ((w.alloc (.cells #[.int .i64 0,.int .i64 0] 23)).alloc (.cells #[.int .i64 0,.int .i64 0] 23))):=((Off.refl g w).alloc _).alloc _
 have HO1:=Lib.hid O1
 have HO2:=Lib.hid O2
 clear h O1 O2
 cases hg:s.got
 ·have HG:=Lib.hid hg
  have HF1:=Lib.hid (Sc.tv_no hg (0:Int) posPLat)
  have HF2:=Lib.hid (Sc.tv_no hg (0:Int) posPLon)
  have HF3:=Lib.hid (Sc.tk_no hg posPErr)
  clear hg
  go_enter Tryz.func314,Tryz.ntmps314
  go_wp2_with fail
  refine(take_any s g _ H.out).mono ?_
  rintro e w1 ⟨rfl,hp⟩
  rw[HG.out]
  have HP:=Lib.hid hp
  obtain⟨k0,k1,k2,k3,k4⟩:=(HO1.out.off hp.2 (by omega)).facts
  obtain⟨l0,l1,l2,l3,l4⟩:=(HO2.out.off hp.2 (by omega)).facts
  have HFIN:Hid (ScPost s.take g w ((w1.setCell ⟨w.heap.size,0,none⟩ (.int .i64 0)).setCell ⟨w.heap.size,1,none⟩ (.int .i64 0))) :=
   ⟨(hp.1.setNew hgs _).setNew hgs _,((HOFF.out.trans hp.2).setNew (Nat.le_refl _) _ _).setNew (Nat.le_refl _) _ _⟩
  clear hp
  go_wp2
  exact bodyPost_ret (v:=.agg #[.int .i64 0,.int .i64 0]) (by simp[results,Tryz.results314,go_sem,k0,k1,k4]) rfl (PosSPost.mk HF1.out HF2.out (by rw[HF3.out];exact HFIN.out))
 ·have HG:=Lib.hid hg
  have HF1:=Lib.hid (Sc.tv_got hg (0:Int) posPLat)
  have HF2:=Lib.hid (Sc.tv_got hg (0:Int) posPLon)
  have HF3:=Lib.hid (Sc.tk_got hg posPErr)
  obtain⟨t,ht⟩:∃t,s.text=t:=⟨_,rfl⟩
  have hsz:=text_size hts
  rw[ht] at HF1 HF2 HF3 hsz
  have HT:=Lib.hid ht
  have HSZ:=Lib.hid hsz
  clear hg ht hts hsz
  go_enter Tryz.func314,Tryz.ntmps314
  go_wp2_with fail
  refine(take_any s g _ H.out).mono ?_
  rintro e w1 ⟨rfl,hp⟩
  rw[HG.out,HT.out]
  have HP:=Lib.hid hp
  clear hp
  go_wp2_with fail
  refine(parsePos_any (sb t) _ (by have:=HSZ.out;unfold maxLen;omega)).mono ?_
  rintro e w2 ⟨rfl,hb2⟩
  rw[bl_sb]
  have HP2:=Lib.hid (HP.out.then_ hb2)
  have z2:w.heap.size+2≤w2.heap.size:=by have:=HP2.out.2.size;simp at this;omega
  obtain⟨x,hx⟩:∃x,posPLat t=x:=⟨_,rfl⟩
  obtain⟨y,hy⟩:∃x,posPLon t=x:=⟨_,rfl⟩
  obtain⟨er,her⟩:∃x,posPErr t=x:=⟨_,rfl⟩
  have hz:er≠0→x=0∧y=0:=by rw[←her,←hx,←hy];exact posP_zero
  rw[hx] at HF1
  rw[hy] at HF2
  rw[her] at HF3
  rw[hx,hy,her]
  clear hx hy her
  have Q1:=Lib.hid (HO1.out.off HP2.out.2 (by omega))
  have Q2:=Lib.hid (HO2.out.off HP2.out.2 (by omega))
  obtain⟨k0,k1,k2,k3,k4⟩:=Q1.out.facts
  obtain⟨l0,l1,l2,l3,l4⟩:=Q2.out.facts
  have c3:=HP2.out.1.c3
  have hg2:=HP2.out.1.lt
  by_cases h0:er=0
  ·have e1:(er != 0)=false:=bne_eq_false_iff_eq.2 h0
   have HE:Hid (s.tk posPErr=s.take):=by unfold Hid;rw[HF3.out,h0,Sc.note_zero]
   have HFIN:Hid (ScPost s.take g w (((w2.setCell ⟨w.heap.size,0,none⟩ (.int .i64 x)).setCell ⟨w.heap.size,1,none⟩ (.int .i64 y)).alloc (.cells #[.int .i64 x,.int .i64 y] 23))) :=
    ⟨((HP2.out.1.setNew hgs _).setNew hgs _).alloc _,(((HOFF.out.trans HP2.out.2).setNew (Nat.le_refl _) _ _).setNew (Nat.le_refl _) _ _).alloc _⟩
   clear h0 hz hb2
   go_wp2
   exact bodyPost_ret (v:=.agg #[.int .i64 x,.int .i64 y]) (by simp[results,Tryz.results314,go_sem,k0,k1,k4]) rfl (PosSPost.mk HF1.out HF2.out (by rw[HE.out];exact HFIN.out))
  ·have e1:(er != 0)=true:=bne_iff_ne.2 h0
   obtain⟨rfl,rfl⟩:=hz h0
   clear h0 hz hb2
   go_wp2_with fail
   refine(note_any s.take s.take.la er g _ (HP2.out.1.alloc _)).mono ?_
   rintro e w3 ⟨rfl,hp⟩
   have HP3:=Lib.hid hp
   have HO3:Hid (Off g w2 w3):=((Off.refl g w2).alloc _).trans hp.2
   clear k0 k1 k2 k3 k4 l0 l1 l2 l3 l4 hp
   obtain⟨k0,k1,k2,k3,k4⟩:=(Q1.out.off HO3.out (by omega)).facts
   obtain⟨l0,l1,l2,l3,l4⟩:=(Q2.out.off HO3.out (by omega)).facts
   have HFIN:Hid (ScPost (s.tk posPErr) g w ((w3.setCell ⟨w.heap.size,0,none⟩ (.int .i64 0)).setCell ⟨w.heap.size,1,none⟩ (.int .i64 0))):=by
    unfold Hid
    rw[HF3.out]
    exact⟨(HP3.out.1.setNew hgs _).setNew hgs _,(((HOFF.out.trans HP2.out.2).trans HO3.out).setNew (Nat.le_refl _) _ _).setNew (Nat.le_refl _) _ _⟩
   go_wp2
   exact bodyPost_ret (v:=.agg #[.int .i64 0,.int .i64 0]) (by simp[results,Tryz.results314,go_sem,k0,k1,k4]) rfl (PosSPost.mk HF1.out HF2.out HFIN.out)
set_option maxHeartbeats 1000000 in
theorem posS_any (s:Sc) (g:Nat) (w:World) (hts:s.text.length≤140737488351232) (h:ScP w g s) :
  Calls Tryz.prog 260 #[.pointer (some ⟨g,0,none⟩)] w (PosSPost s g w):=by
 have H:Hid (ScP (w.alloc (.cells #[.int .i64 0,.int .i64 0] 23)) g s):=h.alloc _
 have O1:Hid (OwnB (w.alloc (.cells #[.int .i64 0,.int .i64 0] 23)) w.heap.size 0 0 23):=heap_alloc_new w _
 have HOFF:Hid (Off g w (w.alloc (.cells #[.int .i64 0,.int .i64 0] 23))):=(Off.refl g w).alloc _
 have hgs:=h.lt
 obtain⟨x,hx⟩:∃x,s.tv 0 posPLat=x:=⟨_,rfl⟩
 obtain⟨y,hy⟩:∃x,s.tv 0 posPLon=x:=⟨_,rfl⟩
 have HX:=Lib.hid hx
 have HY:=Lib.hid hy
 clear h hx hy
 go_enter Tryz.func260,Tryz.ntmps260
 go_wp2_with fail
 refine(takenPos_any s g _ hts H.out).mono ?_
 rintro e w1 ⟨rfl,hp⟩
 rw[HX.out,HY.out]
 obtain⟨k0,k1,k2,k3,k4⟩:=(O1.out.off hp.2 (by omega)).facts
 have HFIN:Hid (ScPost (s.tk posPErr) g w ((w1.setCell ⟨w.heap.size,0,none⟩ (.int .i64 x)).setCell ⟨w.heap.size,1,none⟩ (.int .i64 y))) :=
  ⟨(hp.1.setNew hgs _).setNew hgs _,((HOFF.out.trans hp.2).setNew (Nat.le_refl _) _ _).setNew (Nat.le_refl _) _ _⟩
 clear hp
 go_wp2
 exact bodyPost_ret (v:=.agg #[.int .i64 x,.int .i64 y]) (by simp[results,Tryz.results260,go_sem,k0,k1,k4]) rfl (PosSPost.mk HX.out HY.out HFIN.out)

theorem infoFieldI : (Tryz.prog.info? 244).map (fun i => (i.zero, i.size, i.bytes)) = some (some (.agg #[.string ⟨#[]⟩, .int .i64 0]), 2, 24) := by kernel_rfl
theorem FsR.mono {w : World} {g g' : Nat} {v : Value} {fs : List FldI} (h : FsR w g v fs) (hg : g ≤ g') : FsR w g' v fs := by
  obtain ⟨A, c, hv, hc, hm, hf, hr⟩ := h
  refine ⟨A, c, hv, hc, hm, hf, fun h0 => ?_⟩
  obtain ⟨b, o, hA, hb, hx⟩ := hr h0
  exact ⟨b, o, hA, Nat.lt_of_lt_of_le hb hg, hx⟩
def ScanPost (num : Int) (fs : List FldI) (w : World) (e : Ending) (w' : World) : Prop :=
  ∃ g, e = .returned (.pointer (some ⟨g, 0, none⟩)) ∧ w.heap.size ≤ g ∧ ScP w' g (scan0 num fs) ∧ Below w.heap.size w w'
/-- what Scan leaves: the record's box, the fields' copy, the scanner -/
theorem scan_post {num : Int} {fs : List FldI} {w w2 : World} {v : Value} {g : Nat} (hg : w2.heap.size = g) (hf : FsR w2 w2.heap.size v fs) (hb : Below w.heap.size w w2) :
    ScanPost num fs w (.returned (.pointer (some ⟨g, 0, none⟩))) (w2.alloc (.cells #[.int .i64 num, v, .int .i64 0, .int .i64 1, .int .i64 0, .int .i64 0, .int .i64 0] 353)) := by
  subst hg
  have hb2 := (Below.refl w2.heap.size w2).alloc (Nat.le_refl _) (.cells #[.int .i64 num, v, .int .i64 0, .int .i64 1, .int .i64 0, .int .i64 0, .int .i64 0] 353)
  exact ⟨_, rfl, hb.size, ⟨Nat.zero_le _, v, heap_alloc_new w2 _, hf.keep fun k hk => hb2.block k hk⟩, hb.trans (hb2.mono hb.size)⟩
theorem ScanPost.drew {num : Int} {fs : List FldI} {w w' : World} {e : Ending} (h : ScanPost num fs w e w') : ScanPost num fs w e w'.drew := by
  obtain ⟨g, he, hg, hs, hb⟩ := h
  exact ⟨g, he, hg, hs.drew, hb.drew⟩
theorem fsr_nil (w : World) (g : Nat) : FsR w g (.slice none 0 0) [] := ⟨none, 0, rfl, Nat.le_refl _, by unfold maxLen; omega, by simp, fun h => absurd h (by simp)⟩
set_option maxHeartbeats 2000000 in
theorem scan_zero (num : Int) (v : Value) (w : World) (h : FsR w w.heap.size v []) :
    Calls Tryz.prog 255 #[.agg #[.int .i64 num, v]] w (ScanPost num [] w) := by
  obtain ⟨i0, hi, hz0, hz1, hz2⟩ := info_parts infoFieldI
  obtain ⟨A, c, rfl, hc, hm⟩ := fld_le h
  clear h
  have hl : ([] : List FldI).length = 0 := rfl
  rw [hl] at hc ⊢
  cases A
  all_goals
    go_enter Tryz.func255, Tryz.ntmps255
    go_wp2
    go_region
    go_wp2
    go_ret
    exact (scan_post (w2 := w.alloc _) (by simp) (fsr_nil _ _) ((Below.refl _ _).alloc (Nat.le_refl _) _)).drew
set_option maxRecDepth 100000 in
set_option maxHeartbeats 2000000 in
theorem scan_some (num : Int) (v : Value) (fs : List FldI) (w : World) (h : FsR w w.heap.size v fs) (h0 : 0 < fs.length) (hN : fs.length ≤ 5864062014634) :
    Calls Tryz.prog 255 #[.agg #[.int .i64 num, v]] w (ScanPost num fs w) := by
  obtain ⟨i0, hi, hz0, hz1, hz2⟩ := info_parts infoFieldI
  have H := Lib.hid h
  obtain ⟨A, c, hv, hc, hm, hf, hr⟩ := h
  obtain ⟨b, o, rfl, hb, hx⟩ := hr h0
  subst hv
  unfold maxLen at hm
  obtain ⟨n, hn⟩ : ∃ n, fs.length = n := ⟨_, rfl⟩
  have HX := Lib.hid hx
  have hfl := ficells_len fs
  rw [hn] at hc h0 hfl hN ⊢
  have HFL := Lib.hid hfl
  have HN := Lib.hid hn
  have HF := Lib.hid hf
  have HSRC : Hid (∀ wx : World, Below w.heap.size w wx → ∀ j u, (ficells fs)[j]? = some u → wx.cell? ((⟨b, o, none⟩ : Addr).add j) = some u) := by
    intro wx hbx j u hu
    rw [Addr.add_lit]
    exact (hbx.cell (p := ⟨b, o + j, none⟩) hb).trans (HX.out j u hu)
  have HONE : Hid (∀ u ∈ ficells fs, u.oneCell' = true) := by
    intro u hu
    unfold ficells at hu
    rw [List.mem_flatMap] at hu
    obtain ⟨f, _, hu⟩ := hu
    simp at hu
    rcases hu with rfl | rfl <;> rfl
  clear hn hf hx hr hfl
  go_enter Tryz.func255, Tryz.ntmps255
  go_wp2
  go_region_held3 (fun wx => wx.cell? ⟨w.heap.size, 0, none⟩ = some (.int .i64 num) ∧ wx.cell? ⟨w.heap.size, 1, none⟩ = some (.slice (some ⟨b, o, none⟩) n c))
    (first
      | go_keep
      | (go_split_ands
         refine ⟨?_, ?_⟩
         · (rw [hgrow.cell_far _ (by simp) (by simp [Value.ownBlock])]; assumption)
         · (rw [hgrow.cell_far _ (by simp) (by simp [Value.ownBlock])]; assumption)))
    ((refine step_append_lies _ (by rfl) _ _ _ (by rfl) w.heap.size 244 i0 (.agg #[.string ⟨#[]⟩, .int .i64 0]) 2 24 Tryz.underlying182 hi hz0 hz1 hz2 rfl (by omega) (.slice none 0 0) 0 [] (by rfl) (World.ownsRow_nil _ _ _ _) ⟨b, o, none⟩ n c (ficells fs) (by rfl) HFL.out (by exact HSRC.out _ (by repeat (first | exact Below.refl _ _ | refine Below.drew ?_ | refine Below.alloc ?_ (by simp) _ | refine below_drewN' ?_ _))) HONE.out (by omega) (by unfold maxLen; omega) (by omega) (by simp) (w.heap.size + 1) (by simp) ?_; intro gg cap w2 hown2 hgrow hat hlt2))
  have HFS : Hid (FsR w2 w2.heap.size (.slice (some ⟨gg, 0, none⟩) n cap) fs) := by
    simp only [Nat.zero_add, List.nil_append] at hown2
    have h2 := hown2
    obtain ⟨_, ⟨h3, _⟩ | ⟨g', cap', cur, h3, _, _, hnc, hcm, _⟩⟩ := h2
    · simp at h3
    · simp only [Value.slice.injEq, true_and] at h3
      obtain ⟨_, rfl⟩ := h3
      refine ⟨_, cap, by rw [HN.out], by rw [HN.out]; exact hnc, hcm, HF.out, fun _ => ⟨gg, 0, rfl, hlt2, fun j u hu => ?_⟩⟩
      have hj : j < n * 2 := by
        rw [← HFL.out]; exact (List.getElem?_eq_some_iff.1 hu).1
      rw [Nat.zero_add, hown2.cellAt j hj]; exact hu
  have HBB : Hid (Below w.heap.size w w2) := ((((Below.refl w.heap.size w).alloc (Nat.le_refl _) (.cells #[.int .i64 num, .slice (some ⟨b, o, none⟩) n c] 184)).drew).grown hgrow (by simp) (fun j hj => by cases hj) : Below w.heap.size w w2)
  clear hown2 hgrow hat
  go_wp2
  go_ret
  exact scan_post rfl HFS.out HBB.out
theorem scan_any (num : Int) (v : Value) (fs : List FldI) (w : World) (h : FsR w w.heap.size v fs) (hN : fs.length ≤ 5864062014634) :
    Calls Tryz.prog 255 #[.agg #[.int .i64 num, v]] w (ScanPost num fs w) := by
  match fs, h, hN with
  | [], h, _ => exact scan_zero num v w h
  | f :: fs, h, hN => exact scan_some num v (f :: fs) w h (by simp) hN

def EndPost (s : Sc) (w : World) (e : Ending) (w' : World) : Prop := e = .returned (.tuple #[.agg #[.int .i64 s.endL, .int .i64 s.endC, .int .i64 s.endE], .bool s.endB]) ∧ Below w.heap.size w w'
theorem EndPost.mk {s : Sc} {w w' : World} {a b c : Int} {f : Bool} (h1 : s.endL = a) (h2 : s.endC = b) (h3 : s.endE = c) (h4 : s.endB = f) (h : Below w.heap.size w w') : EndPost s w (.returned (.tuple #[.agg #[.int .i64 a, .int .i64 b, .int .i64 c], .bool f])) w' := by
  subst h1 h2 h3 h4; exact ⟨rfl, h⟩
theorem end_bad {s : Sc} (h : s.bad = true) : s.endL = s.dl ∧ s.endC = s.dc ∧ s.endE = s.de ∧ s.endB = true := by
  unfold Sc.endL Sc.endC Sc.endE Sc.endB; rw [h]; exact ⟨rfl, rfl, rfl, rfl⟩
theorem end_more {s : Sc} (h : s.bad = false) (h2 : s.nx < s.fs.length) : s.endL = s.num ∧ s.endC = (fld s.fs s.nx).2 ∧ s.endE = 4 ∧ s.endB = true := by
  unfold Sc.endL Sc.endC Sc.endE Sc.endB; rw [h]; simp [h2]
theorem end_ok {s : Sc} (h : s.bad = false) (h2 : ¬ s.nx < s.fs.length) : s.endL = 0 ∧ s.endC = 0 ∧ s.endE = 0 ∧ s.endB = false := by
  unfold Sc.endL Sc.endC Sc.endE Sc.endB; rw [h]; simp [h2]
set_option maxRecDepth 100000 in
set_option maxHeartbeats 2000000 in
theorem endS_any (s : Sc) (g : Nat) (w : World) (h : ScP w g s) :
    Calls Tryz.prog 265 #[.pointer (some ⟨g, 0, none⟩)] w (EndPost s w) := by
  have H := Lib.hid h
  have hgs := h.lt
  obtain ⟨hn, v, hb, hf⟩ := h
  skip
  cases hbad : s.bad
  · have HB := Lib.hid hbad
    try rw [hbad] at c7
    by_cases hlt : s.nx < s.fs.length
    · have HE := Lib.hid (end_more hbad hlt)
      obtain ⟨b, o, c, rfl, hbl, hc0, hc1, hsz⟩ := hf.at_ hlt
      have hbn : b ≠ g := Nat.ne_of_lt hbl
      have hbw : b < w.heap.size := Nat.lt_trans hbl hgs
      have k0 : w.cell? ⟨g, 0, none⟩ = some (.int .i64 s.num) := blkCell hb 0 rfl
      have k1 : w.cell? ⟨g, 1, none⟩ = some (.slice (some ⟨b, o, none⟩) s.fs.length c) := blkCell hb 1 rfl
      have k2 : w.cell? ⟨g, 2, none⟩ = some (.int .i64 (s.nx : Int)) := blkCell hb 2 rfl
      obtain ⟨A', c', hv', hcn, hcm⟩ := fld_le hf
      simp only [Value.slice.injEq, true_and] at hv'
      obtain ⟨-, rfl⟩ := hv'
      obtain ⟨n, hnn⟩ : ∃ n, s.fs.length = n := ⟨_, rfl⟩
      obtain ⟨k, hkk⟩ : ∃ k, s.nx = k := ⟨_, rfl⟩
      obtain ⟨co, hco⟩ : ∃ t, (fld s.fs s.nx).2 = t := ⟨_, rfl⟩
      rw [hco] at hc1 HE
      rw [hkk] at hlt k2 hc1
      rw [hnn] at hlt hcn k1
      clear hnn hkk hco hb hf hn hbad hsz hc0
      have hki : (k : Int) < (n : Int) := by omega
      have hk0 : (0 : Int) ≤ (k : Int) := by omega
      have hknat : ((k : Int)).toNat = k := Int.toNat_natCast k
      go_enter Tryz.func265, Tryz.ntmps265
      go_wp2_with fail
      refine (failed_any s g _ (H.out.alloc _)).mono ?_
      rintro en w1 ⟨rfl, rfl⟩; rw [HB.out]
      go_wp2
      go_quiet (fail)
      go_wp2
      go_region
      go_wp2
      exact bodyPost_ret (v := .tuple #[.agg #[.int .i64 s.num, .int .i64 co, .int .i64 4], .bool true]) (by simp [results, Tryz.results265, go_sem]) rfl (EndPost.mk HE.out.1 HE.out.2.1 HE.out.2.2.1 HE.out.2.2.2 (by repeat (first | exact Below.refl _ _ | refine Below.setCell ?_ (by simp) _ | refine Below.drew ?_ | refine below_drewN' ?_ _ | refine Below.alloc ?_ (by simp) _)))
    · have HE := Lib.hid (end_ok hbad hlt)
      obtain ⟨A, c, rfl, hcn, hcm⟩ := fld_le hf
      have k1 : w.cell? ⟨g, 1, none⟩ = some (.slice A s.fs.length c) := blkCell hb 1 rfl
      have k2 : w.cell? ⟨g, 2, none⟩ = some (.int .i64 (s.nx : Int)) := blkCell hb 2 rfl
      obtain ⟨n, hnn⟩ : ∃ n, s.fs.length = n := ⟨_, rfl⟩
      obtain ⟨k, hkk⟩ : ∃ k, s.nx = k := ⟨_, rfl⟩
      rw [hkk] at k2 hlt
      rw [hnn] at hcn k1 hlt
      have hki : (n : Int) ≤ (k : Int) := by omega
      clear hnn hkk hb hf hn hbad hlt
      go_enter Tryz.func265, Tryz.ntmps265
      go_wp2_with fail
      refine (failed_any s g _ (H.out.alloc _)).mono ?_
      rintro en w1 ⟨rfl, rfl⟩; rw [HB.out]
      go_wp2
      go_quiet (fail)
      go_wp2
      exact bodyPost_ret (v := .tuple #[.agg #[.int .i64 0, .int .i64 0, .int .i64 0], .bool false]) (by simp [results, Tryz.results265, go_sem]) rfl (EndPost.mk HE.out.1 HE.out.2.1 HE.out.2.2.1 HE.out.2.2.2 (by repeat (first | exact Below.refl _ _ | refine Below.setCell ?_ (by simp) _ | refine Below.drew ?_ | refine below_drewN' ?_ _ | refine Below.alloc ?_ (by simp) _)))
  · have HE := Lib.hid (end_bad hbad)
    have HB := Lib.hid hbad
    try rw [hbad] at c7
    have k4 : w.cell? ⟨g, 4, none⟩ = some (.int .i64 s.dl) := blkCell hb 4 rfl
    have k5 : w.cell? ⟨g, 5, none⟩ = some (.int .i64 s.dc) := blkCell hb 5 rfl
    have k6 : w.cell? ⟨g, 6, none⟩ = some (.int .i64 s.de) := blkCell hb 6 rfl
    clear hbad hb hf hn
    go_enter Tryz.func265, Tryz.ntmps265
    go_wp2_with fail
    refine (failed_any s g _ (H.out.alloc _)).mono ?_
    rintro en w1 ⟨rfl, rfl⟩; rw [HB.out]
    go_wp2
    exact bodyPost_ret (v := .tuple #[.agg #[.int .i64 s.dl, .int .i64 s.dc, .int .i64 s.de], .bool true]) (by simp [results, Tryz.results265, go_sem]) rfl (EndPost.mk HE.out.1 HE.out.2.1 HE.out.2.2.1 HE.out.2.2.2 (by repeat (first | exact Below.refl _ _ | refine Below.setCell ?_ (by simp) _ | refine Below.drew ?_ | refine below_drewN' ?_ _ | refine Below.alloc ?_ (by simp) _)))
end Go.Proofs.YtgmehlgfilpleaaGreatDoor
