/- Texts of the proof: SpcI, SpcL, SpcM, SpcN. -/
import Derived.Test.YtnebdlchogmneaaGreatDoorPk1
import Derived.Test.YtnebdlchogmneaaGreatDoorPk14
import Derived.Test.YtnebdlchogmneaaGreatDoorPk12
import Derived.Test.YtnebdlchogmneaaGreatDoorPk9
set_option maxHeartbeats 8000000
set_option linter.unusedVariables false
set_option linter.unusedSimpArgs false
namespace Go.Proofs.YtnebdlchogmneaaGreatDoor
open Go.RowKit Go.Maps
def nD (k m:Nat):aC:=⟨bT gT 0 aU,iE k m,1,1,0,fun _=>none,0,fun _=>none⟩
def o9 (a b c:Value):Nat→Value:=fun i=>if i==5 then a else if i==6 then b else if i==7 then c else undef
def Ao (nc np ns gm:Nat) (sv tv:Value) (b ub:Nat) (vc vo:Value) (m1 m2:Nat):Array Value:=#[.int .i64 (nc:Int),.int .i64 (np:Int),.int .i64 (ns:Int),.pointer (some ⟨gm,0,none⟩),sv,tv,.pointer (some ⟨b,0,none⟩),.pointer (some ⟨ub,0,none⟩),vc,vo,.map (some m1),.map (some m2)]
def lG (sp ub b g tb sb m1 m2 k m n nc np ns base:Nat) (vc vo:Value) (cf ow:List Nat) (un:Un):bL:=⟨sp,ub,b,g,tb,sb,m1,m2,k,m,n,nc,np,ns,0,base,vc,vo,cf,ow,un⟩
theorem KP (B n:Nat) (v:Value) (f:Nat→Nat):aS B 3 1 n v ((List.range n).map (fun i=>nv (f i)))=aS B 3 1 ((List.range n).map f).length v (((List.range n).map f).map nv):=by
  rw [List.map_map,List.length_map,List.length_range]
  rfl
section
variable {W w:World} {os:List Oj}
set_option maxRecDepth 100000 in
theorem SC (nc np ns n k m:Nat) (h1:1≤nc) (h2:nc≤16) (h3:np≤16) (h4:ns≤65536) (hn1:1≤n) (hn:n≤1048576) (hr:qB k m=true) (P:bL→aC→Prop)
    (hst:∀ L:bL,L.n=n→L.root=0→L.nc=nc→L.np=np→L.ns=ns→L.k=k→L.m=m→∃ st st2:Nat→aC,st 0=nD k m∧(∀ i,i<nc→(st i).k<L.n∧(st i).u≤(st i).k∧(iQ L 65536 fQ i (st i)).1=0∧st (i+1)=(iQ L 65536 fQ i (st i)).2)∧st2 0=st nc ∧
      (∀ i,i<np→(st2 i).k<L.n∧(st2 i).u≤(st2 i).k∧(iQ L 131072 gJ i (st2 i)).1=0∧st2 (i+1)=(iQ L 131072 gJ i (st2 i)).2) ∧
      ∀ vc vo base,P {L with vc:=vc,vo:=vo,base:=base,cf:=(List.range nc).map (fun i=>(st i).k),ow:=(List.range np).map (fun i=>(st2 i).k),un:=⟨true,1,0,true,false,false⟩ } (st2 np))
    (h:aa W os w):
    Calls Tryz.prog 42 #[.agg #[.int .i64 (nc:Int),.int .i64 (np:Int),.int .i64 (ns:Int)],.int .i64 (n:Int),.int .i64 (k:Int),.int .i64 (m:Int)] w fun e w'=>∃ L s,e=.returned (.tuple #[.pointer (some ⟨L.sp,0,none⟩),.int .i64 0])∧P L s∧aa W (ax L s os) w':=by
  have HST:=Yh hst
  have SE:=Yh (fun w=>KN nc np ns w h1 h2 h3 h4)
  have HN:=Yh (And.intro hn1 hn)
  have KQ:=Yh (And.intro h2 h3)
  have HR:=Yh hr
  have FH:=Yh (h.push #[.int .i64 (nc:Int),.int .i64 (np:Int),.int .i64 (ns:Int)] 126 rfl)
  clear h hst h1 h2 h3 h4 hn1 hn hr;obtain ⟨jy,FI⟩:∃ q,q=w.heap.size:=⟨_,rfl⟩
  rw [← FI] at FH;go_enter Tryz.func42,Tryz.ntmps42
  go_wp2_with fail;rw [← FI];clear FI;refine (SE.out _).mono ?_
  rintro e w1 ⟨rfl,hw1⟩;have ho1:=FH.out.step (cZ _ (.cells #[.int .i64 (nc:Int),.int .i64 (np:Int),.int .i64 (ns:Int)] 126))
  rw [hw1] at ho1;have dL:=Yh ho1
  clear ho1 hw1 FH
  go_wp2_with fail;refine (dL.out.Su n HN.out.1 HN.out.2).mono ?_
  rintro e w2 ⟨g,rfl,ho2,_⟩;have dY:=Yh ho2
  clear ho2
  go_wp2_with fail;refine (dY.out.SF k m HR.out).mono ?_
  rintro e w3 ⟨rfl,ho3,_⟩;generalize w2.heap.size=b at *;have iF:=Yh ho3
  have Cr:=Yh ho3.drew
  clear ho3;have hbk:=Cr.out.blk 2 rfl
  have s0:∀ w',Ext w3.drew w'→w'.cell? ⟨jy,0,none⟩=some (.int .i64 (nc:Int)):=fun w' hx=>(hx.cell hbk.lt).trans (hbk.cell 0)
  have s1:∀ w',Ext w3.drew w'→w'.cell? ⟨jy,1,none⟩=some (.int .i64 (np:Int)):=fun w' hx=>(hx.cell hbk.lt).trans (hbk.cell 1)
  have s2:∀ w',Ext w3.drew w'→w'.cell? ⟨jy,2,none⟩=some (.int .i64 (ns:Int)):=fun w' hx=>(hx.cell hbk.lt).trans (hbk.cell 2)
  have hmm:=@run_makeMap Tryz.prog
  clear hbk
  go_wp2_with fail;refine wp_region_pt Ext later_ext (PT.steps [0,1,2,3,4] (.yt 5 (.fork 6 (.turn 7 (.rest 3 (kL 11 [0,1,2,3,4,5,6,7]))) 7 (.turn 6 (.rest 3 (kL 11 [0,1,2,3,4,5,6,7])))) 6 (.fork 5 (.turn 7 (.rest 3 (kL 11 [0,1,2,3,4,5,6,7]))) 7 (.turn 5 (.rest 3 (kL 11 [0,1,2,3,4,5,6,7])))) 7 (.fork 5 (.turn 6 (.rest 3 (kL 11 [0,1,2,3,4,5,6,7]))) 6 (.turn 5 (.rest 3 (kL 11 [0,1,2,3,4,5,6,7])))))) (by kernel_rfl) (by kernel_rfl) (fun _ d _ _ _ h=>by cases d <;> exact h) ?_
  unfold PT.steps
  iterate 5 (refine pt_take (v:=?_) rfl (by kernel_rfl) ?_ ?_;rotate_left;(focus (intro w' hw';try go_simp;try with_reducible rfl));simp only [Act.put,pa1,pa2,pa3])
  clear s0 s1 s2;generalize w3.drew=y0 at Cr ⊢;refine Cs (L:=kL 11 [0,1,2,3,4,5,6,7]) (k:=3) (ds:=[(5,some 39),(6,some 40),(7,some 41)]) (fun x wz=>∃ ub m1 m2,x 5=.pointer (some ⟨ub,0,none⟩)∧x 6=.map (some m1)∧x 7=.map (some m2)∧aa W (ae ub 258 (dm.cs g b)::dX 3 m1 0 (fun _=>none)::dX 97 m2 0 (fun _=>none)::gH b k m (iE k m)::eQ g n gT::ae jy 126 #[.int .i64 (nc:Int),.int .i64 (np:Int),.int .i64 (ns:Int)]::os) wz) (PT.steps [8] (.turn 9 (.step 10 .done))) (by kernel_rfl) later_ext (fun _ d _ _ _ h=>by cases d <;> exact h) rfl (by kernel_rfl) ?_ ?_
  rotate_left
  · intro mF
    have HD0:=Cr
    refine SG ?_ ?_ ?_
    focus
      refine pt_opcall (R:=Ext) rfl (by kernel_rfl) (by go_simp;exact ⟨rfl,rfl⟩) ?_
      refine (Ap g b y0).mono ?_
      rintro e y1 ⟨rfl,hw⟩;have HD1:=Yh (HD0.out.push (dm.cs g b) 258 rfl)
      have HX0:=Yh (cZ y0 (.cells (dm.cs g b) 258))
      rw [hw] at HD1 HX0;clear hw;refine ⟨_,rfl,HX0.out,?_⟩
      (try simp only [Act.put,pa1,pa2,pa3])
      refine uK ?_ ?_
      focus
        refine dw (R:=Ext) rfl (by kernel_rfl) (fun K hK=>?_)
        go_simp
        refine hK _ _ ⟨cZ _ _,?_⟩
        clear hK K;have HD2:=Yh (HD1.out.rF 3)
        generalize y1.alloc (.map #[] 0)=y2 at HD2 ⊢
        (try simp only [Act.put,pa1,pa2,pa3])
        refine fB ?_
        refine dw (R:=Ext) rfl (by kernel_rfl) (fun K hK=>?_)
        go_simp
        refine hK _ _ ⟨cZ _ _,?_⟩
        clear hK K;have HD3:=Yh (HD2.out.rF 97)
        generalize y2.alloc (.map #[] 0)=y3 at HD3 ⊢
        (try simp only [Act.put,pa1,pa2,pa3])
        have hfin:=mF (o9 (.pointer (some ⟨y0.heap.size,0,none⟩)) (.map (some y1.heap.size)) (.map (some y2.heap.size))) _ ⟨_,_,_,rfl,rfl,rfl,aa.permA (xs:=[dX 97 y2.heap.size 0 (fun _=>none),dX 3 y1.heap.size 0 (fun _=>none),ae y0.heap.size 258 (dm.cs g b)]) [2,1,0] HD3.out (by decide) (by simp)⟩
        simp only [fill,o9,Nat.reduceBEq,Bool.false_eq_true,if_true,if_false,reduceIte,Act.put,List.setIfInBounds_toArray,List.set_cons_zero,List.set_cons_succ] at hfin ⊢
        exact hfin
      focus
        refine dw (R:=Ext) rfl (by kernel_rfl) (fun K hK=>?_)
        go_simp
        refine hK _ _ ⟨cZ _ _,?_⟩
        clear hK K;have HD2:=Yh (HD1.out.rF 97)
        generalize y1.alloc (.map #[] 0)=y2 at HD2 ⊢
        (try simp only [Act.put,pa1,pa2,pa3])
        refine fB ?_
        refine dw (R:=Ext) rfl (by kernel_rfl) (fun K hK=>?_)
        go_simp
        refine hK _ _ ⟨cZ _ _,?_⟩
        clear hK K;have HD3:=Yh (HD2.out.rF 3)
        generalize y2.alloc (.map #[] 0)=y3 at HD3 ⊢
        (try simp only [Act.put,pa1,pa2,pa3])
        have hfin:=mF (o9 (.pointer (some ⟨y0.heap.size,0,none⟩)) (.map (some y2.heap.size)) (.map (some y1.heap.size))) _ ⟨_,_,_,rfl,rfl,rfl,aa.permA (xs:=[dX 3 y2.heap.size 0 (fun _=>none),dX 97 y1.heap.size 0 (fun _=>none),ae y0.heap.size 258 (dm.cs g b)]) [2,0,1] HD3.out (by decide) (by simp)⟩
        simp only [fill,o9,Nat.reduceBEq,Bool.false_eq_true,if_true,if_false,reduceIte,Act.put,List.setIfInBounds_toArray,List.set_cons_zero,List.set_cons_succ] at hfin ⊢
        exact hfin
    focus
      refine dw (R:=Ext) rfl (by kernel_rfl) (fun K hK=>?_)
      go_simp
      refine hK _ _ ⟨cZ _ _,?_⟩
      clear hK K;have HD1:=Yh (HD0.out.rF 3)
      generalize y0.alloc (.map #[] 0)=y1 at HD1 ⊢
      (try simp only [Act.put,pa1,pa2,pa3])
      refine uK ?_ ?_
      focus
        refine pt_opcall (R:=Ext) rfl (by kernel_rfl) (by go_simp;exact ⟨rfl,rfl⟩) ?_
        refine (Ap g b y1).mono ?_
        rintro e y2 ⟨rfl,hw⟩;have HD2:=Yh (HD1.out.push (dm.cs g b) 258 rfl)
        have bC:=Yh (cZ y1 (.cells (dm.cs g b) 258))
        rw [hw] at HD2 bC;clear hw;refine ⟨_,rfl,bC.out,?_⟩
        (try simp only [Act.put,pa1,pa2,pa3])
        refine fB ?_
        refine dw (R:=Ext) rfl (by kernel_rfl) (fun K hK=>?_)
        go_simp
        refine hK _ _ ⟨cZ _ _,?_⟩
        clear hK K;have HD3:=Yh (HD2.out.rF 97)
        generalize y2.alloc (.map #[] 0)=y3 at HD3 ⊢
        (try simp only [Act.put,pa1,pa2,pa3])
        have hfin:=mF (o9 (.pointer (some ⟨y1.heap.size,0,none⟩)) (.map (some y0.heap.size)) (.map (some y2.heap.size))) _ ⟨_,_,_,rfl,rfl,rfl,aa.permA (xs:=[dX 97 y2.heap.size 0 (fun _=>none),ae y1.heap.size 258 (dm.cs g b),dX 3 y0.heap.size 0 (fun _=>none)]) [1,2,0] HD3.out (by decide) (by simp)⟩
        simp only [fill,o9,Nat.reduceBEq,Bool.false_eq_true,if_true,if_false,reduceIte,Act.put,List.setIfInBounds_toArray,List.set_cons_zero,List.set_cons_succ] at hfin ⊢
        exact hfin
      focus
        refine dw (R:=Ext) rfl (by kernel_rfl) (fun K hK=>?_)
        go_simp
        refine hK _ _ ⟨cZ _ _,?_⟩
        clear hK K;have HD2:=Yh (HD1.out.rF 97)
        generalize y1.alloc (.map #[] 0)=y2 at HD2 ⊢
        (try simp only [Act.put,pa1,pa2,pa3])
        refine fB ?_
        refine pt_opcall (R:=Ext) rfl (by kernel_rfl) (by go_simp;exact ⟨rfl,rfl⟩) ?_
        refine (Ap g b y2).mono ?_
        rintro e y3 ⟨rfl,hw⟩;have HD3:=Yh (HD2.out.push (dm.cs g b) 258 rfl)
        have uL:=Yh (cZ y2 (.cells (dm.cs g b) 258))
        rw [hw] at HD3 uL;clear hw;refine ⟨_,rfl,uL.out,?_⟩
        (try simp only [Act.put,pa1,pa2,pa3])
        have hfin:=mF (o9 (.pointer (some ⟨y2.heap.size,0,none⟩)) (.map (some y0.heap.size)) (.map (some y1.heap.size))) _ ⟨_,_,_,rfl,rfl,rfl,aa.permA (xs:=[ae y2.heap.size 258 (dm.cs g b),dX 97 y1.heap.size 0 (fun _=>none),dX 3 y0.heap.size 0 (fun _=>none)]) [0,2,1] HD3.out (by decide) (by simp)⟩
        simp only [fill,o9,Nat.reduceBEq,Bool.false_eq_true,if_true,if_false,reduceIte,Act.put,List.setIfInBounds_toArray,List.set_cons_zero,List.set_cons_succ] at hfin ⊢
        exact hfin
    focus
      refine dw (R:=Ext) rfl (by kernel_rfl) (fun K hK=>?_)
      go_simp
      refine hK _ _ ⟨cZ _ _,?_⟩
      clear hK K;have HD1:=Yh (HD0.out.rF 97)
      generalize y0.alloc (.map #[] 0)=y1 at HD1 ⊢
      (try simp only [Act.put,pa1,pa2,pa3])
      refine uK ?_ ?_
      focus
        refine pt_opcall (R:=Ext) rfl (by kernel_rfl) (by go_simp;exact ⟨rfl,rfl⟩) ?_
        refine (Ap g b y1).mono ?_
        rintro e y2 ⟨rfl,hw⟩;have HD2:=Yh (HD1.out.push (dm.cs g b) 258 rfl)
        have bC:=Yh (cZ y1 (.cells (dm.cs g b) 258))
        rw [hw] at HD2 bC;clear hw;refine ⟨_,rfl,bC.out,?_⟩
        (try simp only [Act.put,pa1,pa2,pa3])
        refine fB ?_
        refine dw (R:=Ext) rfl (by kernel_rfl) (fun K hK=>?_)
        go_simp
        refine hK _ _ ⟨cZ _ _,?_⟩
        clear hK K;have HD3:=Yh (HD2.out.rF 3)
        generalize y2.alloc (.map #[] 0)=y3 at HD3 ⊢
        (try simp only [Act.put,pa1,pa2,pa3])
        have hfin:=mF (o9 (.pointer (some ⟨y1.heap.size,0,none⟩)) (.map (some y2.heap.size)) (.map (some y0.heap.size))) _ ⟨_,_,_,rfl,rfl,rfl,aa.permA (xs:=[dX 3 y2.heap.size 0 (fun _=>none),ae y1.heap.size 258 (dm.cs g b),dX 97 y0.heap.size 0 (fun _=>none)]) [1,0,2] HD3.out (by decide) (by simp)⟩
        simp only [fill,o9,Nat.reduceBEq,Bool.false_eq_true,if_true,if_false,reduceIte,Act.put,List.setIfInBounds_toArray,List.set_cons_zero,List.set_cons_succ] at hfin ⊢
        exact hfin
      focus
        refine dw (R:=Ext) rfl (by kernel_rfl) (fun K hK=>?_)
        go_simp
        refine hK _ _ ⟨cZ _ _,?_⟩
        clear hK K;have HD2:=Yh (HD1.out.rF 3)
        generalize y1.alloc (.map #[] 0)=y2 at HD2 ⊢
        (try simp only [Act.put,pa1,pa2,pa3])
        refine fB ?_
        refine pt_opcall (R:=Ext) rfl (by kernel_rfl) (by go_simp;exact ⟨rfl,rfl⟩) ?_
        refine (Ap g b y2).mono ?_
        rintro e y3 ⟨rfl,hw⟩;have HD3:=Yh (HD2.out.push (dm.cs g b) 258 rfl)
        have uL:=Yh (cZ y2 (.cells (dm.cs g b) 258))
        rw [hw] at HD3 uL;clear hw;refine ⟨_,rfl,uL.out,?_⟩
        (try simp only [Act.put,pa1,pa2,pa3])
        have hfin:=mF (o9 (.pointer (some ⟨y2.heap.size,0,none⟩)) (.map (some y1.heap.size)) (.map (some y0.heap.size))) _ ⟨_,_,_,rfl,rfl,rfl,aa.permA (xs:=[ae y2.heap.size 258 (dm.cs g b),dX 3 y1.heap.size 0 (fun _=>none),dX 97 y0.heap.size 0 (fun _=>none)]) [0,1,2] HD3.out (by decide) (by simp)⟩
        simp only [fill,o9,Nat.reduceBEq,Bool.false_eq_true,if_true,if_false,reduceIte,Act.put,List.setIfInBounds_toArray,List.set_cons_zero,List.set_cons_succ] at hfin ⊢
        exact hfin
  rintro x wz ⟨ub,m1,m2,e5,e6,e7,hz⟩;have HZ:=Yh hz
  clear hz iF Cr;simp only [fill,e5,e6,e7,Act.put,List.setIfInBounds_toArray,List.set_cons_zero,List.set_cons_succ]
  unfold PT.steps
  iterate 1 (refine pt_take (v:=?_) rfl (by kernel_rfl) ?_ ?_;rotate_left;(focus (intro w' hw';try go_simp;try with_reducible rfl));simp only [Act.put,pa1,pa2,pa3])
  unfold PT.steps;refine fB ?_
  refine dw (R:=Ext) rfl (by kernel_rfl) (fun K hK=>?_)
  go_simp
  refine hK _ _ ⟨cZ _ _,?_⟩
  clear hK K;obtain ⟨sp,hsp⟩:∃ q,q=wz.heap.size:=⟨_,rfl⟩
  have lH:=Yh (HZ.out.push (Ao nc np ns g (.pointer none) (.pointer none) b ub (.slice none 0 0) (.slice none 0 0) m1 m2) 153 hsp)
  have hwz:wz.alloc (.cells #[.int .i64 (nc:Int),.int .i64 (np:Int),.int .i64 (ns:Int),.pointer (some ⟨g,0,none⟩),.pointer none,.pointer none,.pointer (some ⟨b,0,none⟩),.pointer (some ⟨ub,0,none⟩),.slice none 0 0,.slice none 0 0,.map (some m1),.map (some m2)] 153)=wz.alloc (.cells (Ao nc np ns g (.pointer none) (.pointer none) b ub (.slice none 0 0) (.slice none 0 0) m1 m2) 153):=rfl
  rw [← hsp,hwz];clear hwz hsp HZ;generalize wz.alloc (.cells (Ao nc np ns g (.pointer none) (.pointer none) b ub (.slice none 0 0) (.slice none 0 0) m1 m2) 153)=w4 at *
  (try simp only [Act.put,pa1,pa2,pa3])
  iterate 1 (refine pt_take (v:=?_) rfl (by kernel_rfl) ?_ ?_;rotate_left;(focus (intro w' hw';try go_simp;try with_reducible rfl));simp only [Act.put,pa1,pa2,pa3])
  refine uM ?_
  clear hmm
  go_wp2_with fail;refine (lH.out.Sw g n HN.out.2).mono ?_
  rintro e w5 ⟨rfl,FJ,_⟩;generalize w4.heap.size+1=sb at *;have iR:=Yh (FJ.ay 1 rfl 4 (.pointer (some ⟨sb,0,none⟩)))
  have hbk:=FJ.blk 1 rfl
  have d4:w5.cell? ⟨sp,4,none⟩=some (.pointer none):=hbk.cell 4
  have hl:=hbk.lt
  have hfr:=fun i=>Blk.frozen hbk i
  clear FJ hbk
  go_upto_region 11 with fail
  generalize w5.setCell ⟨sp,4,none⟩ (.pointer (some ⟨sb,0,none⟩))=w6 at *;clear d4 hl hfr;have hbk:=iR.out.blk 1 rfl
  have d4:w6.cell? ⟨sp,4,none⟩=some (.pointer (some ⟨sb,0,none⟩)):=hbk.cell 4
  have hl:=hbk.lt
  clear hbk
  go_wp2_with fail;have yu:=aa.permA (xs:=[jw (FE g sb n) 0,ae sp 153 ((Ao nc np ns g (.pointer none) (.pointer none) b ub (.slice none 0 0) (.slice none 0 0) m1 m2).setIfInBounds 4 (.pointer (some ⟨sb,0,none⟩))),ae ub 258 (dm.cs g b),dX 3 m1 0 (fun _=>none),dX 97 m2 0 (fun _=>none),gH b k m (iE k m),eQ g n gT,ae jy 126 #[.int .i64 (nc:Int),.int .i64 (np:Int),.int .i64 (ns:Int)]]) [6,0,1,2,3,4,5,7] iR.out (by decide) (by simp)
  refine (aa.Sz g sb n HN.out.1 yu).mono ?_
  rintro e w7 ⟨rfl,yw,_⟩;clear yu;generalize w6.heap.size=tb at *;have mG:=Yh yw.Ki.1
  clear yw;have hbk:=mG.out.blk 3 rfl
  have d5:w7.cell? ⟨sp,5,none⟩=some (.pointer none):=hbk.cell 5
  have sP:=hbk.lt
  have hfr:=fun i=>Blk.frozen hbk i
  have KR:=Yh (mG.out.ay 3 rfl 5 (.pointer (some ⟨tb,0,none⟩)))
  clear hbk d4 hl
  go_upto_region 14 with fail
  generalize w7.setCell ⟨sp,5,none⟩ (.pointer (some ⟨tb,0,none⟩))=w8 at *;clear d5 sP hfr;have hs1:aa W (ax (lG sp ub b g tb sb m1 m2 k m n nc np ns W.heap.size (.slice none 0 0) (.slice none 0 0) [] [] dm) (nD k m) (ae jy 126 #[.int .i64 (nc:Int),.int .i64 (np:Int),.int .i64 (ns:Int)]::os)) w8:=
    aa.permA (xs:=[aS W.heap.size 3 1 0 (.slice none 0 0) [],aS W.heap.size 3 1 0 (.slice none 0 0) [],eQ g n (bT gT 0 aU),ae tb 263 (mo ⟨tb,g,sb,n,0,n,0⟩ 1),jw ⟨tb,g,sb,n,0,n,0⟩ 1,ae sp 153 (((Ao nc np ns g (.pointer none) (.pointer none) b ub (.slice none 0 0) (.slice none 0 0) m1 m2).setIfInBounds 4 (.pointer (some ⟨sb,0,none⟩))).setIfInBounds 5 (.pointer (some ⟨tb,0,none⟩))),ae ub 258 (dm.cs g b),dX 3 m1 0 (fun _=>none),dX 97 m2 0 (fun _=>none),gH b k m (iE k m)]) (os:=ae jy 126 #[.int .i64 (nc:Int),.int .i64 (np:Int),.int .i64 (ns:Int)]::os) [5,6,9,2,3,4,0,1,7,8] ((KR.out.row0 W.heap.size 3 1).row0 W.heap.size 3 1) (by decide) (by simp)
  clear KR mG iR lH dY dL;obtain ⟨st,st2,g0,g1,g2,g3,g4⟩:=HST.out (lG sp ub b g tb sb m1 m2 k m n nc np ns W.heap.size (.slice none 0 0) (.slice none 0 0) [] [] dm) rfl rfl rfl rfl rfl rfl rfl
  rw [← g0] at hs1;have oO:=Yh hs1
  have HG:=Yh (And.intro g1 (And.intro g2 (And.intro g3 g4)))
  have hbk:=hs1.blk 10 rfl
  have d0:w8.cell? ⟨jy,0,none⟩=some (.int .i64 (nc:Int)):=hbk.cell 0
  have hls:=hbk.lt
  clear hs1 g0 g1 g2 g3 g4 hbk HST;have HL:Hid (Calls Tryz.prog 75 #[.pointer (some ⟨sp,0,none⟩),.int .u64 65536,.int .i64 (nc:Int),.string ⟨#[118,114,45,120,117,45,97,45]⟩] w8 fun e w'=>∃ v,e=.returned (.tuple #[v,.int .i64 0])∧aa W (aS W.heap.size 3 1 nc v ((List.range nc).map (fun i=>nv (st i).k))::ax (lG sp ub b g tb sb m1 m2 k m n nc np ns W.heap.size (.slice none 0 0) (.slice none 0 0) [] [] dm) (st nc) (ae jy 126 #[.int .i64 (nc:Int),.int .i64 (np:Int),.int .i64 (ns:Int)]::os)) w'):=
    Yh (KI (L:=lG sp ub b g tb sb m1 m2 k m n nc np ns W.heap.size (.slice none 0 0) (.slice none 0 0) [] [] dm) 65536 nc ⟨#[118,114,45,120,117,45,97,45]⟩ fQ st (by decide) KQ.out.1 (by show (0:Nat)<1048576;decide) HN.out.2 (fun f w hf=>⟨yg _ _ _ _ _ _ _ _ hf,R9 f w hf⟩) HG.out.1 oO.out)
  go_wp2_with fail;refine HL.out.mono ?_
  rintro e w9 ⟨v,rfl,Aq⟩;obtain ⟨vA,vc,hv⟩:=FD (Aq.owns 0 rfl)
  subst hv;clear d0 hls;have hbk:=Aq.blk 1 rfl
  have d8:w9.cell? ⟨sp,8,none⟩=some (.slice none 0 0):=hbk.cell 8
  have hl:sp<w9.heap.size:=hbk.lt
  have hfr:∀ i,w9.frozen? ⟨sp,i,none⟩=false:=fun i=>Blk.frozen hbk i
  rw [KP] at Aq;have KS:Hid (aa W ([aS W.heap.size 3 1 ((List.range nc).map (fun i=>(st i).k)).length (.slice vA nc vc) (((List.range nc).map (fun i=>(st i).k)).map nv),ae sp 153 ((lG sp ub b g tb sb m1 m2 k m n nc np ns W.heap.size (.slice none 0 0) (.slice none 0 0) [] [] dm).cs.setIfInBounds 8 (.slice vA nc vc)),ae ub 258 (dm.cs g b),gH b k m (st nc).T,eQ g n (st nc).S,ae tb 263 (mo ⟨tb,g,sb,n,0,n,0⟩ (st nc).u),jw ⟨tb,g,sb,n,0,n,0⟩ (st nc).k,aS W.heap.size 3 1 0 (.slice none 0 0) [],aS W.heap.size 3 1 0 (.slice none 0 0) [],dX 3 m1 (st nc).ms (st nc).sh,dX 97 m2 (st nc).mr (st nc).ri]++ae jy 126 #[.int .i64 (nc:Int),.int .i64 (np:Int),.int .i64 (ns:Int)]::os) (w9.setCell ⟨sp,8,none⟩ (.slice vA nc vc))):=Yh (Aq.ay 1 rfl 8 (.slice vA nc vc))
  clear hbk Aq oO HL
  go_upto_region 17 with fail
  generalize w9.setCell ⟨sp,8,none⟩ (.slice vA nc vc)=wy at *;clear d8 hl hfr;have hs2:aa W (ax (lG sp ub b g tb sb m1 m2 k m n nc np ns W.heap.size (.slice vA nc vc) (.slice none 0 0) ((List.range nc).map (fun i=>(st i).k)) [] dm) (st nc) (ae jy 126 #[.int .i64 (nc:Int),.int .i64 (np:Int),.int .i64 (ns:Int)]::os)) wy:=by
    have h9:=KS.out
    exact aa.permA (xs:=[aS W.heap.size 3 1 ((List.range nc).map (fun i=>(st i).k)).length (.slice vA nc vc) (((List.range nc).map (fun i=>(st i).k)).map nv),ae sp 153 ((lG sp ub b g tb sb m1 m2 k m n nc np ns W.heap.size (.slice none 0 0) (.slice none 0 0) [] [] dm).cs.setIfInBounds 8 (.slice vA nc vc)),ae ub 258 (dm.cs g b),gH b k m (st nc).T,eQ g n (st nc).S,ae tb 263 (mo ⟨tb,g,sb,n,0,n,0⟩ (st nc).u),jw ⟨tb,g,sb,n,0,n,0⟩ (st nc).k,aS W.heap.size 3 1 0 (.slice none 0 0) [],aS W.heap.size 3 1 0 (.slice none 0 0) [],dX 3 m1 (st nc).ms (st nc).sh,dX 97 m2 (st nc).mr (st nc).ri]) (os:=ae jy 126 #[.int .i64 (nc:Int),.int .i64 (np:Int),.int .i64 (ns:Int)]::os) [1,2,3,4,5,6,0,8,9,10] h9 (by decide) (by simp)
  clear KS;rw [← HG.out.2.1] at hs2;have HS2:=Yh hs2
  have hbk:=hs2.blk 10 rfl
  have d0:wy.cell? ⟨jy,1,none⟩=some (.int .i64 (np:Int)):=hbk.cell 1
  have hls:=hbk.lt
  clear hs2 hbk;have HL:Hid (Calls Tryz.prog 75 #[.pointer (some ⟨sp,0,none⟩),.int .u64 131072,.int .i64 (np:Int),.string ⟨#[118,114,119,45,117,45,97,100]⟩] wy fun e w'=>∃ v',e=.returned (.tuple #[v',.int .i64 0])∧aa W (aS W.heap.size 3 1 np v' ((List.range np).map (fun i=>nv (st2 i).k))::ax (lG sp ub b g tb sb m1 m2 k m n nc np ns W.heap.size (.slice vA nc vc) (.slice none 0 0) ((List.range nc).map (fun i=>(st i).k)) [] dm) (st2 np) (ae jy 126 #[.int .i64 (nc:Int),.int .i64 (np:Int),.int .i64 (ns:Int)]::os)) w'):=
    Yh (KI (L:=lG sp ub b g tb sb m1 m2 k m n nc np ns W.heap.size (.slice vA nc vc) (.slice none 0 0) ((List.range nc).map (fun i=>(st i).k)) [] dm) 131072 np ⟨#[118,114,119,45,117,45,97,100]⟩ gJ st2 (by decide) KQ.out.2 (by show (0:Nat)<1048576;decide) HN.out.2 (fun f w hf=>⟨yg _ _ _ _ _ _ _ _ hf,FC f w hf⟩) HG.out.2.2.1 HS2.out)
  go_wp2_with fail;refine HL.out.mono ?_
  rintro e sQ ⟨v2,rfl,Ar⟩;obtain ⟨nU,nV,hv⟩:=FD (Ar.owns 0 rfl)
  subst hv;clear d0 hls;have hbk:=Ar.blk 1 rfl
  have d9:sQ.cell? ⟨sp,9,none⟩=some (.slice none 0 0):=hbk.cell 9
  have hl:sp<sQ.heap.size:=hbk.lt
  have hfr:∀ i,sQ.frozen? ⟨sp,i,none⟩=false:=fun i=>Blk.frozen hbk i
  rw [KP] at Ar;have KT:Hid (aa W ([aS W.heap.size 3 1 ((List.range np).map (fun i=>(st2 i).k)).length (.slice nU np nV) (((List.range np).map (fun i=>(st2 i).k)).map nv),ae sp 153 ((lG sp ub b g tb sb m1 m2 k m n nc np ns W.heap.size (.slice vA nc vc) (.slice none 0 0) ((List.range nc).map (fun i=>(st i).k)) [] dm).cs.setIfInBounds 9 (.slice nU np nV)),ae ub 258 (dm.cs g b),gH b k m (st2 np).T,eQ g n (st2 np).S,ae tb 263 (mo ⟨tb,g,sb,n,0,n,0⟩ (st2 np).u),jw ⟨tb,g,sb,n,0,n,0⟩ (st2 np).k,aS W.heap.size 3 1 ((List.range nc).map (fun i=>(st i).k)).length (.slice vA nc vc) (((List.range nc).map (fun i=>(st i).k)).map nv),aS W.heap.size 3 1 0 (.slice none 0 0) [],dX 3 m1 (st2 np).ms (st2 np).sh,dX 97 m2 (st2 np).mr (st2 np).ri]++ae jy 126 #[.int .i64 (nc:Int),.int .i64 (np:Int),.int .i64 (ns:Int)]::os) (sQ.setCell ⟨sp,9,none⟩ (.slice nU np nV))):=Yh (Ar.ay 1 rfl 9 (.slice nU np nV))
  clear hbk Ar HS2 HL
  go_upto_region 20 with fail
  generalize sQ.setCell ⟨sp,9,none⟩ (.slice nU np nV)=wB at *;clear d9 hl hfr;have hs3:aa W (ax (lG sp ub b g tb sb m1 m2 k m n nc np ns W.heap.size (.slice vA nc vc) (.slice nU np nV) ((List.range nc).map (fun i=>(st i).k)) ((List.range np).map (fun i=>(st2 i).k)) dm) (st2 np) (ae jy 126 #[.int .i64 (nc:Int),.int .i64 (np:Int),.int .i64 (ns:Int)]::os)) wB:=by
    have h9:=KT.out
    exact aa.permA (xs:=[aS W.heap.size 3 1 ((List.range np).map (fun i=>(st2 i).k)).length (.slice nU np nV) (((List.range np).map (fun i=>(st2 i).k)).map nv),ae sp 153 ((lG sp ub b g tb sb m1 m2 k m n nc np ns W.heap.size (.slice vA nc vc) (.slice none 0 0) ((List.range nc).map (fun i=>(st i).k)) [] dm).cs.setIfInBounds 9 (.slice nU np nV)),ae ub 258 (dm.cs g b),gH b k m (st2 np).T,eQ g n (st2 np).S,ae tb 263 (mo ⟨tb,g,sb,n,0,n,0⟩ (st2 np).u),jw ⟨tb,g,sb,n,0,n,0⟩ (st2 np).k,aS W.heap.size 3 1 ((List.range nc).map (fun i=>(st i).k)).length (.slice vA nc vc) (((List.range nc).map (fun i=>(st i).k)).map nv),aS W.heap.size 3 1 0 (.slice none 0 0) [],dX 3 m1 (st2 np).ms (st2 np).sh,dX 97 m2 (st2 np).mr (st2 np).ri]) (os:=ae jy 126 #[.int .i64 (nc:Int),.int .i64 (np:Int),.int .i64 (ns:Int)]::os) [1,2,3,4,5,6,7,0,9,10] h9 (by decide) (by simp)
  clear KT;have SH:=Yh hs3.drew
  have hbk0:=hs3.drew.blk 0 rfl
  have Ct:=hs3.drew.blk 4 rfl
  have s7:∀ w',SameL [sp,tb] wB.drew w'→w'.cell? ⟨sp,7,none⟩=some (.pointer (some ⟨ub,0,none⟩)):=fun w' hs=>hs.cell (by simp) (hbk0.cell 7)
  have s5:∀ w',SameL [sp,tb] wB.drew w'→w'.cell? ⟨sp,5,none⟩=some (.pointer (some ⟨tb,0,none⟩)):=fun w' hs=>hs.cell (by simp) (hbk0.cell 5)
  have gG:Hid (∀ w',SameL [sp,tb] wB.drew w'→Calls Tryz.prog 78 #[.pointer (some ⟨tb,0,none⟩)] w' fun e w''=>e=.returned (.int .i64 0)∧w'=w''):=Yh (fun w' hs=>Sr tb 0 w' (hs.cell (by simp) (Ct.cell 2)) (aI.lt (hs.blk (by simp) Ct)))
  have KU:sp<wB.heap.size:=hbk0.lt
  have KV:tb<wB.heap.size:=Ct.lt
  have yx:=Yh (And.intro KU KV)
  clear hs3 hbk0 Ct
  go_wp2_with fail;refine wp_region_plan_by (SameL [sp,tb]) (later_same _) [(0,false),(1,false),(2,false),(3,false),(4,false),(5,false),(6,false),(7,false),(8,false),(9,false),(10,false),(11,true),(12,true)] (by kernel_rfl) (by kernel_rfl) (fun _ d _ _ _ h=>by cases d <;> exact h) ?_
  iterate 8 (refine plan_take (v:=?_) rfl (by kernel_rfl) ?_ ?_;rotate_left;(focus (intro w' hw';try go_simp;try with_reducible rfl));simp only [Act.put,pa1,pa2,pa3])
  refine plan_quiet rfl (by kernel_rfl) (fun w' => by go_simp; all_goals (first | exact ⟨rfl, rfl⟩ | rfl)) (fun w' hw' => gG.out w' hw') ?_
  simp only [Act.put,pa1,pa2,pa3]
  iterate 2 (refine plan_take (v:=?_) rfl (by kernel_rfl) ?_ ?_;rotate_left;(focus (intro w' hw';try go_simp;try with_reducible rfl));simp only [Act.put,pa1,pa2,pa3])
  clear s5 s7 gG
  refine plan_call rfl (by kernel_rfl) (by go_simp; exact ⟨rfl, rfl⟩) ?_
  refine (SI true 1 0 _ (by decide)).mono ?_
  rintro e KW ⟨rfl,b13⟩;have FK:=Yh (SH.out.step b13)
  have SK:Hid (SameL [sp,tb] wB.drew KW):=Yh (SameL.ext b13 (fun x hx=>by
    have:=yx.out
    simp only [List.mem_cons,List.not_mem_nil,or_false] at hx
    rcases hx with rfl|rfl
    · exact this.1
    · exact this.2))
  refine ⟨_, rfl, SK.out, ?_⟩
  simp only [Act.put,pa1,pa2,pa3]
  clear b13 KU KV
  refine plan_call rfl (by kernel_rfl) (by go_simp; exact ⟨rfl, rfl⟩) ?_
  refine (SL _ _ _ _ _ _ _ _ _ _ _ _ (wC true 1 0) (by decide) FK.out.yn).mono ?_
  rintro e Cu ⟨rfl,KX⟩;have Cv:=aa.KE KX
  have KY:Hid (SameL [sp,tb] KW Cu):=Yh (fun b hb=>by
    simp only [List.mem_cons,List.not_mem_nil,or_false] at hb
    rcases hb with rfl|rfl
    · exact FK.out.same Cv 0 0 rfl rfl
    · exact FK.out.same Cv 4 4 rfl rfl)
  have hun:dm.wD (wC true 1 0)=⟨true,1,0,false,false,false⟩:=by kernel_rfl
  have FL:aa W (ax (lG sp ub b g tb sb m1 m2 k m n nc np ns W.heap.size (.slice vA nc vc) (.slice nU np nV) ((List.range nc).map (fun i=>(st i).k)) ((List.range np).map (fun i=>(st2 i).k)) (dm.wD (wC true 1 0))) (st2 np) (ae jy 126 #[.int .i64 (nc:Int),.int .i64 (np:Int),.int .i64 (ns:Int)]::os)) Cu:=Cv
  rw [hun] at FL;have KZ:=Yh FL
  clear KX Cv FL hun
  refine ⟨_, rfl, KY.out, ?_⟩
  simp only [Act.put,pa1,pa2,pa3]
  refine aG ?_
  clear KY;have hbk:=KZ.out.blk 0 rfl
  have d7:Cu.cell? ⟨sp,7,none⟩=some (.pointer (some ⟨ub,0,none⟩)):=hbk.cell 7
  have hl:sp<Cu.heap.size:=hbk.lt
  clear hbk
  go_wp2_with fail;refine (SN _ _ _ _ _ _ _ _ _ _ _ _ true false false KZ.out.yn).mono ?_
  rintro e SQ ⟨rfl,K4⟩;have K5:aa W (ax (lG sp ub b g tb sb m1 m2 k m n nc np ns W.heap.size (.slice vA nc vc) (.slice nU np nV) ((List.range nc).map (fun i=>(st i).k)) ((List.range np).map (fun i=>(st2 i).k)) ⟨true,1,0,true,false,false⟩) (st2 np) (ae jy 126 #[.int .i64 (nc:Int),.int .i64 (np:Int),.int .i64 (ns:Int)]::os)) SQ:=aa.KE K4
  have SS:=Yh K5
  clear K4 K5 d7 hl
  go_wp2_with fail
  go_ret2
  have hP:=HG.out.2.2.2 (.slice vA nc vc) (.slice nU np nV) W.heap.size
  exact ⟨lG sp ub b g tb sb m1 m2 k m n nc np ns W.heap.size (.slice vA nc vc) (.slice nU np nV) ((List.range nc).map (fun i=>(st i).k)) ((List.range np).map (fun i=>(st2 i).k)) ⟨true,1,0,true,false,false⟩,st2 np,rfl,hP,aa.without (xs:=ax (lG sp ub b g tb sb m1 m2 k m n nc np ns W.heap.size (.slice vA nc vc) (.slice nU np nV) ((List.range nc).map (fun i=>(st i).k)) ((List.range np).map (fun i=>(st2 i).k)) ⟨true,1,0,true,false,false⟩) (st2 np) []) (A:=ae jy 126 #[.int .i64 (nc:Int),.int .i64 (np:Int),.int .i64 (ns:Int)]) (os:=os) SS.out⟩
end
end Go.Proofs.YtnebdlchogmneaaGreatDoor
namespace Go.Proofs.YtnebdlchogmneaaGreatDoor
open Go.RowKit
theorem sS {n at_ v f:Nat} {s:Int} {S:Nat→List Nat} (h:at_ / 4096≠f):bH n S at_ s v f=S f:=by
  unfold bH
  split
  · unfold uN bT
    rw [if_neg (fun e=>h e.symm)]
  · rfl
theorem Au {k f:Nat} {l:List Nat} {S:Nat→List Nat} (h:f≠k):bT S k l f=S f:=by
  unfold bT;rw [if_neg h]
def kM (root:Nat) (T:List Tb) (f:Nat):Prop:=f≠root∧∀ b∈T,b.fr≠f
theorem kM.tab {root f va l t:Nat} {T:List Tb} (h:kM root T f) (ht:aO root T va l=some t):t≠f:=by
  by_cases hl:l=2
  · unfold aO at ht
    rw [if_pos hl] at ht
    injection ht with ht
    intro e;exact h.1 (by rw [← e,ht])
  · obtain ⟨b,hb,_,_,e⟩:=xV hl ht
    rw [← e];exact h.2 b hb
section
variable {c:TC} {σ:TS} {L:List Mp} {T:List Tb}
theorem Cw {va t l:Nat} (ht:t<1048576):aQ va t l / 4096=t:=by
  have:=qw va l
  rw [Cg ht];omega
theorem Inv.other (h:Inv c σ L T) {S':Nat→List Nat} {k' u':Nat} (hf:Full S') (hk:σ.k≤k') (hS:∀ t,¬ kM c.root T t→S' t=σ.S t):Inv c ⟨S',k',u'⟩ L T:=by
  have htab:∀ (va l t:Nat),aO c.root T va l=some t→S' t=σ.S t:=fun va l t ht=>hS t (fun hfr=>hfr.tab ht rfl)
  refine {h with full:=hf,oV:=Nat.lt_of_lt_of_le h.oV (Nat.add_le_add_left hk _),fresh:=fun b hb=>Nat.lt_of_lt_of_le (h.fresh b hb) (Nat.add_le_add_left hk _),wd:=fun va l t hv hc hl ht=>?_}
  rw [← h.wd va l t hv hc hl ht];have hi:=qw va l
  unfold nk aY nP;rw [show (t*4096+8*dU va (l:Int)) / 4096=t by omega,show (⟨S',k',u'⟩:TS).S t=σ.S t from htab va l t ht]
theorem SX {a f:Nat} (hf:f<c.first+σ.k) (ha:a / 4096≠f):(iB c σ a).S f=σ.S f:=by
  have htk:(dC c σ).S f=σ.S f:=by
    unfold dC
    split
    · rfl
    · split
      · rfl
      · exact Au (by omega)
  unfold iB
  split
  · split
    · show bH c.n (dC c σ).S a 8 _ f=_
      rw [sS ha,htk]
    · exact htk
  · rfl
theorem FM (va level x:Nat) (hv:va<18446744073709551616) (hc:bD va=true) (f:Nat):∀ (d:Nat) (σ:TS) (L:List Mp) (T:List Tb) (t:Nat),Inv c σ L T→level+d≤2→aO c.root T va (level+d)=some t→kM c.root T f→f<c.first+σ.k →
    (jN c va level x d σ t).2.S f=σ.S f
  | 0,σ,L,T,t,h,hl,ht,hfr,yz=>by
    have hft:=h.frame ht
    have hn:=h.n
    unfold jN
    split
    · exact sS (by rw [Cw (by omega)];exact hfr.tab ht)
    · rfl
  | d+1,σ,L,T,t,h,hl,ht,hfr,yz=>by
    have hft:=h.frame ht
    have hn:=h.n
    have hat:aQ va t (level+(d+1)) / 4096≠f:=by rw [Cw (by omega)];exact hfr.tab ht
    have hl1:level+(d+1)-1=level+d:=by omega
    unfold jN
    cases e:bg L va (level+(d+1)) with
    | some m =>
      obtain ⟨g1,g2,_⟩:=h.E8 hv hc hl ht e
      rw [g1,g2,if_neg (by decide)]
    | none =>
      cases e2:aO c.root T va (level+d) with
      | some f' =>
        obtain ⟨g1,g2,g3,_⟩:=h.Fe (f:=f') hv hc hl (by omega) ht e (by rw [hl1];exact e2)
        rw [g1,g2,g3,if_pos rfl];exact FM va level x hv hc f d σ L T f' h (by omega) e2 hfr yz
      | none =>
        have hz:=h.zero hv hc hl ht e (.inr (by rw [hl1];exact e2))
        have hE:jM c σ (aQ va t (level+(d+1)))=dH c σ:=by unfold jM;rw [if_pos hz]
        by_cases hE0:dH c σ=0
        · have hk:σ.k≠c.N:=fun e=>by unfold dH at hE0;rw [if_pos e] at hE0;cases hE0
          have hn2:¬ c.n≤c.first+σ.k:=fun e=>by unfold dH at hE0;rw [if_neg hk,if_pos e] at hE0;cases hE0
          have hS:iB c σ (aQ va t (level+(d+1)))=⟨bH c.n (bT σ.S (c.first+σ.k) aU) (aQ va t (level+(d+1))) 8 (iY (c.first+σ.k)),σ.k+1,σ.u+1⟩:=by
            unfold iB dC;rw [if_pos hz,hE0,if_pos rfl,if_neg hk,if_neg hn2]
          have hF:mh c σ (aQ va t (level+(d+1)))=c.first+σ.k:=by
            unfold mh;rw [if_pos hz,hE0,if_pos rfl]
          have Ae:=h.lay hv hc hl (by omega) ht e (by rw [hl1];exact e2) (by omega) (σ.u+1)
          rw [hl1] at Ae;have htn:aO c.root (T++[⟨level+d,aP va (level+(d+1)),c.first+σ.k⟩]) va (level+d)=some (c.first+σ.k):=by
            rw [Ac,e2];simp only
            rw [if_pos ⟨trivial,rfl⟩]
          have hfr2:kM c.root (T++[⟨level+d,aP va (level+(d+1)),c.first+σ.k⟩]) f:=⟨hfr.1,fun b hb=>by
            rcases List.mem_append.1 hb with hb|hb
            · exact hfr.2 b hb
            · rw [List.mem_singleton.1 hb];show c.first+σ.k≠f;omega⟩
          have hrec:=FM va level x hv hc f d _ L _ _ Ae (by omega) htn hfr2 (by show f<c.first+(σ.k+1);omega)
          rw [hE,if_pos hE0,hS,hF,hrec];show bH c.n (bT σ.S (c.first+σ.k) aU) (aQ va t (level+(d+1))) 8 _ f=_
          rw [sS hat,Au (by omega)]
        · rw [hE,if_neg hE0]
          exact SX yz hat
def ik (c:TC) (k:Nat) (T:List Tb) (va:Nat):List Tb:=
  if aO c.root T va 1=none then [⟨1,aP va 2,c.first+k⟩,⟨0,aP va 1,c.first+(k+1)⟩] else if aO c.root T va 0=none then [⟨0,aP va 1,c.first+k⟩] else []
theorem Cx {L:List Mp} (hL:∀ m∈L,m.aj=0) (va l:Nat) (hl:l≠0):bg L va l=none:=by
  cases e:bg L va l with
  | none=>rfl
  | some m=>obtain ⟨h1,h2,_⟩:=ig e;exact absurd ((hL m h1).symm.trans h2).symm hl
theorem FN (h:Inv c σ L T) {va:Nat} (h1:aO c.root T va 1=none):aO c.root T va 0=none:=by
  cases e:aO c.root T va 0 with
  | none=>rfl
  | some f=>obtain ⟨g,hg⟩:=h.above e;rw [h1] at hg;cases hg
theorem K8 (h:Inv c σ L T) {va:Nat} {p:aF} (hv:va<18446744073709551616) (hc:bD va=true) (hm:fu p 0=true) (hw:ic p) (hL:∀ m∈L,m.aj=0) (hp:bg L va 0=none)
    (hN:c.first+σ.k+(ik c σ.k T va).length≤c.n) (wE:σ.k+(ik c σ.k T va).length≤c.N) (hu:σ.u≤σ.k):
    (cK c σ va 0 p).1=0∧Inv c (cK c σ va 0 p).2 (L++[⟨aP va 0,0,p⟩]) (T++ik c σ.k T va)∧(cK c σ va 0 p).2.k=σ.k+(ik c σ.k T va).length∧(cK c σ va 0 p).2.u≤(cK c σ va 0 p).2.k ∧
      ∀ f,kM c.root T f→f<c.first+σ.k→(cK c σ va 0 p).2.S f=σ.S f:=by
  have hR:cK c σ va 0 p=jN c va 0 p.word 2 σ c.root:=by
    unfold cK;rw [if_pos (by rw [hc,hm];rfl)]
    rfl
  have ht2:=EW c.root T va
  obtain ⟨r1,r2,r3,r4⟩:=Ff va 0 p hv hc hm hw 2 c σ L T c.root h (by decide) ht2
  have hX:lD c va 0 p 2 ⟨L,T,σ.k⟩=(0,⟨L++[⟨aP va 0,0,p⟩],T++ik c σ.k T va,σ.k+(ik c σ.k T va).length⟩):=by
    have p2:=Cx hL va 2 (by decide)
    have p1:=Cx hL va 1 (by decide)
    unfold ik at hN wE ⊢
    cases e1:aO c.root T va 1 with
    | none =>
      have e0:=FN h e1
      rw [if_pos e1] at hN wE;simp only [List.length_cons,List.length_nil] at hN wE
      unfold lD;simp only [p2,e1]
      rw [if_neg (by omega),if_neg (by omega)]
      unfold lD;simp only [p1]
      rw [Ac,e0];simp only
      rw [if_neg (by simp)]
      simp only
      rw [if_neg (by omega),if_neg (by omega)]
      unfold lD;rw [if_pos ⟨hp,.inl rfl⟩];simp
    | some f1 =>
      simp only [e1] at hN wE
      rw [if_neg (by simp)] at hN wE
      unfold lD;simp only [p2,e1]
      unfold lD;simp only [p1]
      cases e0:aO c.root T va 0 with
      | none =>
        rw [if_pos e0] at hN wE;simp only [List.length_cons,List.length_nil] at hN wE
        simp only [e0]
        rw [if_neg (by omega),if_neg (by omega)]
        unfold lD;rw [if_pos ⟨hp,.inl rfl⟩];simp
      | some f0 =>
        simp only [e0]
        unfold lD;rw [if_pos ⟨hp,.inl rfl⟩];simp
  rw [hX] at r1 r2 r3;rw [hR];refine ⟨r1,r2,r3,?_,fun f hf yz=>FM va 0 p.word hv hc f 2 σ L T c.root h (by decide) ht2 hf yz⟩
  have r3':(jN c va 0 p.word 2 σ c.root).2.k=σ.k+(ik c σ.k T va).length:=r3
  omega
theorem SY (h:Inv c σ L T) {va i:Nat} {m:Mp} {p:aF} (hv:va<18446744073709551616) (hc:bD va=true) (hm:fu p 0=true) (hw:ic p) (hl:m.aj=0) (hp:bg L va 0=some m) (hi:L[i]? = some m):
    (eY c σ va p).1=0∧Inv c (eY c σ va p).2 (L.set i ⟨m.va,m.aj,p⟩) T∧(eY c σ va p).2.k=σ.k∧(eY c σ va p).2.u=σ.u∧∀ f,kM c.root T f→(eY c σ va p).2.S f=σ.S f:=by
  have hh:rC L va=some m:=by unfold rC;rw [hp]
  obtain ⟨t,g1,g2,g3,g4⟩:=EY h hv hc hh
  have hft:=h.frame g1
  have hn:=h.n
  have hR:eY c σ va p=(0,⟨bH c.n σ.S (aQ va t m.aj) 8 p.word,σ.k,σ.u⟩):=by
    unfold eY;rw [g4];simp only
    rw [hl];rw [if_pos (by exact hm)]
  rw [hR];exact ⟨rfl,h.put hv hc g2 g1 (by rw [hl];exact hm) hw g3 hi σ.u,rfl,rfl,fun f hf=>sS (by rw [Cw (by omega)];exact hf.tab g1)⟩
theorem S9 (h:Inv c σ L T) {va i:Nat} {m:Mp} (hv:va<18446744073709551616) (hc:bD va=true) (hl:m.aj=0) (hp:bg L va 0=some m) (hi:L[i]? = some m):
    (iD c σ va).2.1=0∧Inv c (iD c σ va).2.2 (L.eraseIdx i) T∧(iD c σ va).2.2.k=σ.k∧(iD c σ va).2.2.u=σ.u∧∀ f,kM c.root T f→(iD c σ va).2.2.S f=σ.S f:=by
  have hh:rC L va=some m:=by unfold rC;rw [hp]
  obtain ⟨t,g1,g2,g3,g4⟩:=EY h hv hc hh
  have hft:=h.frame g1
  have hn:=h.n
  have hR:iD c σ va=(oP m.p.word,0,⟨bH c.n σ.S (aQ va t m.aj) 8 0,σ.k,σ.u⟩):=by
    unfold iD;rw [g4]
  rw [hR];exact ⟨rfl,h.del hv hc g2 g1 g3 hi σ.u,rfl,rfl,fun f hf=>sS (by rw [Cw (by omega)];exact hf.tab g1)⟩
end
def InT (T:List (List En)) (e:En):Prop:=∃ s∈T,e∈s
theorem K9 {T:List (List En)} {i:Nat} {e:En} (h:e∈T.getD i []):InT T e:=by
  rw [List.getD_eq_getElem?_getD] at h
  cases hg:T[i]? with
  | none=>rw [hg] at h;simp at h
  | some s=>rw [hg] at h;exact ⟨s,List.mem_of_getElem? hg,h⟩
theorem Ta {T:List (List En)} {va:Nat} {ak pick:Int} {lf:Tf} {e:En} (h:InT (kN T va ak lf pick) e):InT T e∨e=sU va ak lf:=by
  unfold kN at h
  split at h
  · obtain ⟨s,hs,he⟩:=h
    unfold nW at hs;rcases List.mem_or_eq_of_mem_set hs with hs|rfl
    · exact .inl ⟨s,hs,he⟩
    · rcases List.mem_or_eq_of_mem_set he with he|rfl
      · exact .inl (K9 he)
      · exact .inr rfl
  · exact .inl h
theorem Tc {T:List (List En)} {vo:Option Nat} {ao:Option Int} {e:En} (h:InT (gU T vo ao) e):e=en0∨(InT T e∧rG e vo ao=false):=by
  obtain ⟨s,hs,he⟩:=h
  unfold gU at hs;obtain ⟨s0,hs0,rfl⟩:=List.mem_map.1 hs
  obtain ⟨e0,he0,rfl⟩:=List.mem_map.1 he
  unfold pE
  split
  · exact .inl rfl
  · rename_i hg
    exact .inr ⟨⟨s0,hs0,he0⟩,by simpa using hg⟩
theorem Td {n m:Nat} {e:En} (h:InT (iE n m) e):e=en0:=by
  obtain ⟨s,hs,he⟩:=h
  unfold iE at hs;rw [(List.mem_replicate.1 hs).2] at he;exact (List.mem_replicate.1 he).2
theorem Te {l:List En} {aj:Int} {va:Nat} {ak:Int} {lf:Tf} (h:gK l aj va ak=some lf):∃ e∈l,e.lf=lf∧lf.aj=aj∧e.full=true∧e.page=bQ va lf.aj∧(e.ak=ak∨lf.g=true):=by
  unfold gK at h;obtain ⟨e,h1,rfl⟩:=Option.map_eq_some_iff.1 h
  have h2:=List.find?_some h1
  simp only [qC,yA,hasB,Bool.and_eq_true,beq_iff_eq,Bool.or_eq_true] at h2
  exact ⟨e,List.mem_of_find?_eq_some h1,rfl,h2.1,h2.2.1.1,h2.2.1.2,h2.2.2⟩
theorem Tg {T:List (List En)} {va:Nat} {ak:Int} {lf:Tf} (h:j3 T va ak=some lf):∃ e,InT T e∧e.lf=lf∧e.full=true∧e.page=bQ va lf.aj:=by
  unfold j3 at h;have key:∀ (i:Nat) (aj:Int),gK (T.getD i []) aj va ak=some lf→∃ e,InT T e∧e.lf=lf∧e.full=true∧e.page=bQ va lf.aj:=fun i aj h=>by
    obtain ⟨e,h1,h2,_,h3,h4,_⟩:=Te h
    exact ⟨e,K9 h1,h2,h3,h4⟩
  rcases Option.or_eq_some_iff.1 h with h|⟨_,h⟩
  · exact key _ _ h
  · rcases Option.or_eq_some_iff.1 h with h|⟨_,h⟩
    · exact key _ _ h
    · exact key _ _ h
def yB (l:Tf):aF:=⟨l.v,l.r,l.w,l.x,l.u,l.g,l.a,l.d,l.au,(l.ag:Int)⟩
theorem La (x l a:Nat):yB (lI (.leaf x l a))=oP x:=by
  unfold yB lI oP;simp
def iZ (T:List (List En)) (L:List Mp):Prop:=∀ e,InT T e→e.full=true→∃ m∈L,e.lf.aj=(m.aj:Int)∧e.page=df m.va∧yB e.lf=m.p
theorem iZ.empty (n m:Nat) (L:List Mp):iZ (iE n m) L:=fun e he hf=>by rw [Td he] at hf;cases hf
theorem FO (va:Nat):bQ va 0=df va:=by unfold bQ;simp
theorem iZ.fill {T:List (List En)} {L:List Mp} (h:iZ T L) {va:Nat} {ak pick:Int} {lf:Tf} {m:Mp} (hm:m∈L) (h0:m.aj=0) (hl:lf.aj=0) (hv:df va=df m.va) (hp:yB lf=m.p):iZ (kN T va ak lf pick) L:=fun e he hf=>by
  rcases Ta he with he|rfl
  · exact h e he hf
  · refine ⟨m,hm,?_,?_,hp⟩
    · show lf.aj=_;rw [hl,h0];rfl
    · show bQ va lf.aj=_;rw [hl,FO,hv]
theorem iZ.fence {T:List (List En)} {L L':List Mp} (h:iZ T L) (hL:∀ m∈L,m.aj=0) {va:Nat} (hk:∀ m∈L,df m.va≠df va→m∈L'):iZ (gU T (some va) none) L':=fun e he hf=>by
  rcases Tc he with rfl|⟨he,hg⟩
  · cases hf
  · obtain ⟨m,hm,h1,h2,h3⟩:=h e he hf
    refine ⟨m,hk m hm (fun e2=>?_),h1,h2,h3⟩
    have qD:e.lf.aj=0:=by rw [h1,hL m hm];rfl
    have:rG e (some va) none=true:=by
      simp only [rG,Aw,mH,hasB,hf,Bool.true_and,Bool.and_true,beq_iff_eq]
      rw [qD,FO,h2,e2]
    rw [hg] at this
    cases this
theorem Cy {va:Nat} (h:va<274877906944):bD va=true:=by
  unfold bD nQ;rw [show va / 2 ^ 38=0 by omega]
  rfl
theorem Ti {c:TC} {σ:TS} {L:List Mp} {Tb:List Tb} {T:List (List En)} {u:Un} {va:Nat} {a pick:Int} (h:Inv c σ L Tb) (hL:∀ m∈L,m.aj=0) (hB:iZ T L) (hon:u.on=true) (oZ:u.ag=c.root) (hv:va<18446744073709551616):
    (∃ m∈L,(dR c.n σ.S T u va a pick).2.1 = -1∧df m.va=df va∧yB (dR c.n σ.S T u va a pick).1=m.p∧(dR c.n σ.S T u va a pick).1.aj=0∧iZ (dR c.n σ.S T u va a pick).2.2 L) ∨
    ((bD va=false∨bg L va 0=none)∧(dR c.n σ.S T u va a pick).2.1=iq a 12 13 15∧(dR c.n σ.S T u va a pick).2.2=T):=by
  unfold dR
  cases hf:j3 T va u.ak with
  | some lf =>
    obtain ⟨e,h1,rfl,h3,h4⟩:=Tg hf
    obtain ⟨m,hm,g1,g2,g3⟩:=hB e h1 h3
    have qD:e.lf.aj=0:=by rw [g1,hL m hm];rfl
    rw [qD,FO] at h4;exact .inl ⟨m,hm,rfl,by rw [← g2,h4],g3,qD,hB⟩
  | none =>
    simp only
    rw [hon,oZ];have hfw:fP c.n σ.S true c.root va=eX c σ va:=rfl
    rw [hfw];by_cases hc:bD va=false∨bg L va 0=none
    · have Lb:eX c σ va=.err 51:=Rt h hv (by
        rcases hc with hc|hc
        · exact .inl hc
        · right
          unfold rC;rw [hc,Cx hL va 1 (by decide),Cx hL va 2 (by decide)])
      refine .inr ⟨hc,?_,?_⟩
      · rw [Lb];rfl
      · rw [Lb];rfl
    · have hcc:bD va=true:=by
        cases e:bD va with
        | false=>exact absurd (.inl e) hc
        | true=>rfl
      cases hp:bg L va 0 with
      | none=>exact absurd (.inr hp) hc
      | some m =>
        obtain ⟨hm,eP,hmv⟩:=ig hp
        obtain ⟨t,g1,g2,g3,g4⟩:=EY h hv hcc (by unfold rC;rw [hp])
        obtain ⟨_,_,_,_,rD,hwf⟩:=h.pg m hm
        have hent:=(ER rD hwf).2.2.2.1
        have hvp:df va=df m.va:=by
          rw [hmv];unfold df aP;rw [rz];omega
        rw [g4,eP];have h0:jO (Fd.leaf m.p.word 0 (aQ va t 0))=0:=rfl
        rw [if_pos h0];refine .inl ⟨m,hm,rfl,hvp.symm,?_,rfl,?_⟩
        · show yB (lI (.leaf m.p.word 0 (aQ va t 0)))=_
          rw [La,hent]
        · exact hB.fill (m:=m) (lf:=lI (.leaf m.p.word 0 (aQ va t 0))) hm eP rfl hvp (by rw [La,hent])
def uO (p:aF) (a:Int):Bool:=yC p.v p.r p.w p.x p.u p.a p.d a true false false
theorem Lc {c:TC} {σ:TS} {L:List Mp} {Tb:List Tb} {T:List (List En)} {u:Un} {va:Nat} {size a pick:Int} (h:Inv c σ L Tb) (hL:∀ m∈L,m.aj=0) (hB:iZ T L) (hon:u.on=true) (oZ:u.ag=c.root) (Tj:u.user=true) (hsu:u.sum=false) (hmx:u.iG=false) (hv:va<18446744073709551616) (hal:fC va size=true) (ha:0≤a∧a≤2)
    (hP:∀ m∈L,0≤m.p.ag∧m.p.ag<(c.n:Int)):
    (∃ m∈L,df m.va=df va∧uO m.p a=true∧(bB c.n σ.S T u va size a pick).1=m.p.ag.toNat*4096+va % 4096∧(bB c.n σ.S T u va size a pick).2.1 = -1∧iZ (bB c.n σ.S T u va size a pick).2.2 L) ∨
    ((bB c.n σ.S T u va size a pick).1=0∧(bB c.n σ.S T u va size a pick).2.1=iq a 12 13 15∧iZ (bB c.n σ.S T u va size a pick).2.2 L∧(bD va=false∨bg L va 0=none∨∃ m∈L,df m.va=df va∧uO m.p a=false)):=by
  have hn:=h.n
  unfold bB;rw [if_pos hal];rcases Ti (a:=a) (pick:=pick) h hL hB hon oZ hv with ⟨m,hm,g1,g2,g3,g4,g5⟩|⟨hc,g1,g2⟩
  · rw [if_pos g1]
    generalize dR c.n σ.S T u va a pick=r at *;have hck:yC r.1.v r.1.r r.1.w r.1.x r.1.u r.1.a r.1.d a u.user u.sum u.iG=uO m.p a:=by
      rw [← g3,Tj,hsu,hmx]
      rfl
    have hpn:(r.1.ag:Int)=m.p.ag:=by rw [← g3];rfl
    have hb:=hP m hm
    have hj:pF r.1.ag va r.1.aj=m.p.ag.toNat*4096+va % 4096:=by
      rw [g4];show (r.1.ag*4096 % 18446744073709551616) / 4096*4096+va % 4096=_
      omega
    rw [hck]
    cases hm2:uO m.p a with
    | false =>
      rw [if_neg (by decide)]
      exact .inr ⟨rfl,rfl,g5,.inr (.inr ⟨m,hm,g2,hm2⟩)⟩
    | true =>
      rw [if_pos rfl,hj,if_pos (by omega)]
      exact .inl ⟨m,hm,g2,hm2,rfl,rfl,g5⟩
  · have hne:iq a 12 13 15 ≠ -1:=by
      rcases (show a=0∨a=1∨a=2 by omega) with rfl|rfl|rfl <;> decide
    rw [if_neg (by rw [g1];exact hne)]
    exact .inr ⟨rfl,g1,by rw [g2];exact hB,hc.imp id .inl⟩
def j5 (f:Nat→Option Int) (n:Nat):Nat:=(List.range n).countP (fun p=>(f p).isSome)
theorem yD (f:Nat→Option Int) (n:Nat):j5 f (n+1)=j5 f n+if (f n).isSome then 1 else 0:=by
  unfold j5;rw [List.range_succ,List.countP_append,List.countP_cons,List.countP_nil,Nat.zero_add]
theorem yE (f:Nat→Option Int):∀ n,j5 f n≤n
  | 0=>by unfold j5;simp
  | n+1=>by
    have:=yE f n
    rw [yD]
    split <;> omega
theorem cnt_lt {f:Nat→Option Int} {p:Nat}:∀ {n:Nat},p<n→f p=none→j5 f n<n
  | n+1,hp,hf=>by
    rw [yD];rcases Nat.lt_or_ge p n with h|h
    · have:=cnt_lt h hf
      split <;> omega
    · obtain rfl:p=n:=by omega
      have:=yE f p
      rw [hf];simp
      omega
theorem Ld {f:Nat→Option Int} {p:Nat} {x:Int}:∀ {n:Nat},n≤p→j5 (dK f p x) n=j5 f n
  | 0,_=>by unfold j5;simp
  | n+1,h=>by
    have e:dK f p x n=f n:=by unfold dK;rw [if_neg (by omega)]
    rw [yD,yD,Ld (by omega),e]
theorem FP {f:Nat→Option Int} {p:Nat} {x:Int}:∀ {n:Nat},p<n→j5 (dK f p x) n=if (f p).isSome then j5 f n else j5 f n+1
  | n+1,hp=>by
    rw [yD,yD];rcases Nat.lt_or_ge p n with h|h
    · rw [FP h]
      have e:dK f p x n=f n:=by unfold dK;rw [if_neg (by omega)]
      rw [e]
      split <;> omega
    · obtain rfl:p=n:=by omega
      have e:dK f p x p=some x:=by unfold dK;rw [if_pos rfl]
      rw [Ld (Nat.le_refl _),e]
      cases h2:(f p).isSome <;> simp
def j6 (T:List Tb) (l R:Nat):Bool:=T.any (fun b=>b.aj==l&&b.va==R)
theorem Le {root:Nat} {T:List Tb} {va l:Nat} (hl:l≠2):aO root T va l=none↔j6 T l (aP va (l+1))=false:=by
  unfold aO j6;rw [if_neg hl,Option.map_eq_none_iff,List.find?_eq_none,List.any_eq_false]
theorem Lg (T:List Tb) (b:Tb) (l R:Nat):j6 (T++[b]) l R=(j6 T l R||(b.aj==l&&b.va==R)):=by
  unfold j6;rw [List.any_append];simp
def qE (b:Bool):Nat:=if b then 1 else 0
def FQ (T:List Tb):Nat:=qE (j6 T 1 0)+qE (j6 T 0 0)+qE (j6 T 1 1073741824)+qE (j6 T 0 1073741824)
structure pG (T:List Tb):Prop where
  aj:∀ b∈T,(b.aj=1∨b.aj=0)∧(b.va=0∨b.va=1073741824)
  len:T.length=FQ T
def yF (va R:Nat):Prop:=(R=0∨R=1073741824)∧R≤va∧va<R+2097152
theorem FR {va R:Nat} (h:yF va R):aP va 1=R:=by
  obtain ⟨h1,h2,h3⟩:=h
  unfold aP;rw [sp1];rcases h1 with rfl|rfl <;> omega
theorem Lh {va R:Nat} (h:yF va R):aP va 2=R:=by
  obtain ⟨h1,h2,h3⟩:=h
  unfold aP;rw [sp2];rcases h1 with rfl|rfl <;> omega
theorem Cz (b:Bool):qE b≤1:=by cases b <;> decide
theorem Tk:qE false=0:=rfl
theorem FT:qE true=1:=rfl
theorem pG.one {T:List Tb} (h:pG T) {l R f:Nat} (hl:l=1∨l=0) (hR:R=0∨R=1073741824) (hp:j6 T l R=false):pG (T++[⟨l,R,f⟩]):=by
  refine ⟨fun b hb=>?_,?_⟩
  · rcases List.mem_append.1 hb with hb|hb
    · exact h.aj b hb
    · rw [List.mem_singleton.1 hb]
      exact ⟨hl,hR⟩
  · have hlen:=h.len
    unfold FQ at hlen ⊢;simp only [Lg,List.length_append,List.length_cons,List.length_nil]
    rcases hl with rfl|rfl <;> rcases hR with rfl|rfl <;> rw [hp] at hlen ⊢ <;> simp only [Tk,FT,Nat.reduceBEq,Bool.or_true,Bool.or_false,Bool.and_true,Bool.and_false,Bool.true_and,Bool.false_and,Bool.false_or] at hlen ⊢ <;> omega
theorem pG.room {T:List Tb} (h:pG T) {R:Nat} (hR:R=0∨R=1073741824):T.length+qE (!j6 T 1 R)+qE (!j6 T 0 R)≤4:=by
  have hlen:=h.len
  have h1:=Cz (j6 T 1 0)
  have h2:=Cz (j6 T 0 0)
  have h3:=Cz (j6 T 1 1073741824)
  have h4:=Cz (j6 T 0 1073741824)
  have hn:∀ b:Bool,qE (!b)=1-qE b:=fun b=>by cases b <;> rfl
  unfold FQ at hlen;rw [hn,hn];rcases hR with rfl|rfl <;> omega
theorem pG.laid {T:List Tb} (h:pG T) {c:TC} {k va R:Nat} (hR:yF va R) (hup:aO c.root T va 1=none→aO c.root T va 0=none):pG (T++ik c k T va)∧T.length+(ik c k T va).length≤4:=by
  have e1:aO c.root T va 1=none↔j6 T 1 R=false:=by rw [Le (by decide),Lh hR]
  have e0:aO c.root T va 0=none↔j6 T 0 R=false:=by rw [Le (by decide),FR hR]
  have hroom:=h.room hR.1
  unfold ik;by_cases h1:aO c.root T va 1=none
  · have p1:=e1.1 h1
    have p0:=e0.1 (hup h1)
    rw [if_pos h1,FR hR,Lh hR];rw [p1,p0] at hroom;refine ⟨?_,by simp only [Bool.not_false,FT,List.length_cons,List.length_nil] at hroom ⊢;omega⟩
    have h2:=h.one (f:=c.first+k) (.inl rfl) hR.1 p1
    have h3:=h2.one (f:=c.first+(k+1)) (.inr rfl) hR.1 (by rw [Lg,p0];rfl)
    rw [List.append_assoc] at h3;exact h3
  · rw [if_neg h1]
    by_cases h0:aO c.root T va 0=none
    · have p0:=e0.1 h0
      rw [if_pos h0,FR hR];rw [p0] at hroom;exact ⟨h.one (.inr rfl) hR.1 p0,by simp only [Bool.not_false,FT,List.length_cons,List.length_nil] at hroom ⊢;omega⟩
    · rw [if_neg h0,List.append_nil]
      exact ⟨h,by simp only [List.length_nil];omega⟩
end Go.Proofs.YtnebdlchogmneaaGreatDoor
