/- Texts of the proof: NeF, RunC, NrA, ClA, ClB. -/
import Derived.Test.YtnebdlchogmneaaGreatDoorPk1
import Derived.Test.YtnebdlchogmneaaGreatDoorPk19
set_option maxHeartbeats 8000000
set_option linter.unusedVariables false
set_option linter.unusedSimpArgs false
namespace Go.Proofs.YtnebdlchogmneaaGreatDoor
open Go.RowKit Go.Maps
theorem VF:(Tryz.prog.info? 134).map (fun i=>(i.zero,i.size,i.bytes))=some (some (.pointer none),1,8):=by kernel_rfl
theorem Mx:∀ u∈[Value.pointer none],u.oneCell'=true:=by
  intro u hu;simp at hu;subst hu;rfl
section
variable {W w:World} {os:List Oj} {c:Cf}
def sZ (c:Cf):Array Value:=#[.int .i64 1,.int .i64 (c.pr:Int),.int .i64 (c.sh:Int)]
set_option maxRecDepth 100000 in
theorem VG (hc:c.Ok) (me:Nat) (hme:me<c.n) (A:Option Addr) (bs:List Nat) (cap:Nat) (hl:bs.length≤4096) (hb:∀ i:Nat,bs.getD i 0<256) (xs:List (Option Addr × List Nat)) (hx:(A,bs)∈xs) (h:aa W (aV xs::os) w):
    Calls Tryz.prog 24 #[.int .i64 (me:Int),.agg c.cs,.slice A bs.length cap] w fun e w'=>∃ (x:eD) (s:aC) (f:Nat) (M:List Mp) (T:List Tb),e=.returned (.tuple #[pv x.ng,.int .i64 0]) ∧
      (x.me=me∧x.L.nc=1∧x.L.np=c.pr∧x.L.ns=c.sh∧Rd x.L s f bs M T∧(∀ p,s.rt p=0)∧∀ p,s.data p=aU)∧aa W (aL c x s (dF 65536) (-1) 0 (fun _=>none) (aV xs::os)) w':=by
  have gG:=Yh (fun w=>Mg c hc w)
  have VH:=Yh (fun w=>yK (me:Int) 0 ((c.n:Int)-1) (by omega) (by omega) w)
  have AU:=Yh (fun w=>UT A bs.length cap hl w)
  have hw1:wrap64 ((c.n:Int)-1)=(c.n:Int)-1:=IntWalk.wrap64_in _ (by have:=hc.n;omega)
  have HC:=Yh hc
  have eF:=Yh hme
  have HL:=Yh hl
  have HB:=Yh hb
  have HX:=Yh hx
  have H0:Hid (aa W (aV xs::(os++[ae w.heap.size 26 c.cs])) (w.alloc (.cells c.cs 26))):=Yh (h.kg c.cs 26)
  have bc:Blk (w.alloc (.cells c.cs 26)) w.heap.size 26 c.cs:=aa.dh (os:=aV xs::os) H0.out
  have hrg:=bc.range
  have hlt:=bc.lt
  clear h hc hme hl hb hx bc;go_enter Tryz.func24,Tryz.ntmps24
  go_wp2_with (first|((with_reducible refine wl_store_new 26 (.tmp 4) (.tmp 1) rfl ?_ w (World.heap w).size 26 0 c.cs ?_ ?_ ?_ ?_ ?_ ?_ ?_ ?_); exact rfl; exact rfl; exact rfl; exact rfl; exact rfl; exact rfl; exact rO c; exact Gp c)|((with_reducible refine wl_load 26 (.tmp 4) rfl ?_ w.heap.size 0 c.cs ?_ hrg ?_ ?_); exact rfl; exact rfl; exact rO c)|fail)
  refine (gG.out _).mono ?_
  rintro e w1 ⟨rfl,hb1⟩;have H1:=Yh (H0.out.step hb1)
  have bc:Blk w1 w.heap.size 26 c.cs:=aa.dh (os:=aV xs::os) H1.out
  have x0:w1.cell? ⟨w.heap.size,0,none⟩=some (.int .i64 (c.n:Int)):=bc.cell 0
  have hl1:=bc.lt
  clear hb1 H0 hrg hlt bc gG;generalize w.heap.size=cb at *
  go_wp2_with fail;refine (VH.out _).mono ?_
  rintro e w2 ⟨rfl,rfl⟩
  go_wp2_with fail;refine (AU.out _).mono ?_
  rintro e w2 ⟨rfl,rfl⟩;have bc:=(aa.dh (os:=aV xs::os) H1.out).drew
  have s1:∀ W',Ext w1.drew W'→W'.cell? ⟨cb,1,none⟩=some (.int .i64 (c.pr:Int)):=fun W' h=>(h.cell (p:=⟨cb,1,none⟩) bc.lt).trans (bc.cell 1)
  have s2:∀ W',Ext w1.drew W'→W'.cell? ⟨cb,2,none⟩=some (.int .i64 (c.sh:Int)):=fun W' h=>(h.cell (p:=⟨cb,2,none⟩) bc.lt).trans (bc.cell 2)
  clear bc x0 hl1
  go_wp2_with fail
  refine wp_region_plan [(0, false), (1, false), (2, false), (3, false), (4, false), (5, false), (6, false), (7, true), (8, true)] (by kernel_rfl) (by kernel_rfl) (fun _ d _ _ _ h => by cases d <;> exact h) ?_
  iterate 1 (refine plan_take (v:=?_) rfl (by kernel_rfl) ?_ ?_;rotate_left;(focus (intro w' hw';try go_simp;try with_reducible rfl));simp only [Act.put,pa1,pa2,pa3])
  refine plan_quiet rfl (by kernel_rfl) (fun w' => by go_simp; all_goals (first | exact ⟨rfl, rfl⟩ | rfl)) (fun w' hw' => (AU.out w')) ?_
  simp only [Act.put,pa1,pa2,pa3]
  iterate 5 (refine plan_take (v:=?_) rfl (by kernel_rfl) ?_ ?_;rotate_left;(focus (intro w' hw';try go_simp;try with_reducible rfl));simp only [Act.put,pa1,pa2,pa3])
  clear s1 s2;have H2:=Yh H1.out.drew
  generalize w1.drew=w2 at *;refine plan_turn rfl (by kernel_rfl) (fun K hK=>?_)
  go_simp
  refine hK _ _ ⟨cZ _ _,?_⟩
  clear hK K;refine nL rfl (by kernel_rfl) (by kernel_rfl) (fun K hK=>?_)
  go_simp
  refine hK _ _ ?_
  clear hK K;refine aG ?_
  have H3:Hid (aa W (aV xs::((os++[ae cb 26 c.cs])++[ae w2.heap.size 126 (sZ c)])) (w2.alloc (.cells (sZ c) 126))):=Yh (H2.out.kg (sZ c) 126)
  change Exit.then _ _ _ _ (w2.alloc (.cells (sZ c) 126))
  generalize w2.alloc (.cells (sZ c) 126)=w3 at *;generalize w2.heap.size=sb at *;clear H2 H1;have pJ:=(aa.dh (os:=aV xs::(os++[ae cb 26 c.cs])) H3.out).drew
  have bc3:Blk w3.drew cb 26 c.cs:=aa.dh (os:=aV xs::os) (aa.ja (os:=(aV xs::os)++[ae cb 26 c.cs]) H3.out.drew)
  have t0:∀ W',Ext w3.drew W'→W'.cell? ⟨sb,0,none⟩=some (.int .i64 1):=fun W' h=>(h.cell (p:=⟨sb,0,none⟩) pJ.lt).trans (pJ.cell 0)
  have t1:∀ W',Ext w3.drew W'→W'.cell? ⟨sb,1,none⟩=some (.int .i64 (c.pr:Int)):=fun W' h=>(h.cell (p:=⟨sb,1,none⟩) pJ.lt).trans (pJ.cell 1)
  have t2:∀ W',Ext w3.drew W'→W'.cell? ⟨sb,2,none⟩=some (.int .i64 (c.sh:Int)):=fun W' h=>(h.cell (p:=⟨sb,2,none⟩) pJ.lt).trans (pJ.cell 2)
  have t3:∀ W',Ext w3.drew W'→W'.cell? ⟨cb,3,none⟩=some (.int .i64 (c.sets:Int)):=fun W' h=>(h.cell (p:=⟨cb,3,none⟩) bc3.lt).trans (bc3.cell 3)
  have t4:∀ W',Ext w3.drew W'→W'.cell? ⟨cb,4,none⟩=some (.int .i64 (c.ways:Int)):=fun W' h=>(h.cell (p:=⟨cb,4,none⟩) bc3.lt).trans (bc3.cell 4)
  have wT:Hid (∀ w,Calls Tryz.prog 43 #[.agg #[.int .i64 1,.int .i64 (c.pr:Int),.int .i64 (c.sh:Int)]] w fun e w'=>e=.returned (.int .i64 ((1+c.pr+c.sh+5:Nat):Int))∧Below w.heap.size w w'):=Yh (fun w=>KO 1 c.pr c.sh w (by omega) (by omega) HC.out.pr HC.out.sh.1 HC.out.sh.2)
  have og:Hid (∀ w,Calls Tryz.prog 42 #[.agg #[.int .i64 1,.int .i64 (c.pr:Int),.int .i64 (c.sh:Int)],.int .i64 ((1+c.pr+c.sh+5:Nat):Int),.int .i64 (c.sets:Int),.int .i64 (c.ways:Int)] w fun e w'=>∃ L s,e=.returned (.tuple #[.pointer (some ⟨L.sp,0,none⟩),.int .i64 0]) ∧
      (L.nc=1∧L.np=c.pr∧L.ns=c.sh∧L.k=c.sets∧L.m=c.ways∧(∃ M T,aT L s M T)∧(∀ p,s.rt p=0)∧∀ p,s.data p=aU)∧aa w (ax L s []) w'):=Yh (fun w=>U3 1 c.pr c.sh c.sets c.ways (by omega) (by omega) HC.out.pr HC.out.sh.1 HC.out.sh.2 HC.out.sets (aa.nil (Below.refl _ _)))
  clear pJ bc3;generalize ((1+c.pr+c.sh+5:Nat):Int)=need at *
  go_wp2_with fail
  refine wp_region_plan [(0, false), (1, false), (3, false), (4, false), (5, false), (6, false), (2, true), (7, true), (8, false), (9, false), (10, false), (11, false), (12, false)] (by kernel_rfl) (by kernel_rfl) (fun _ d _ _ _ h => by cases d <;> exact h) ?_
  iterate 6 (refine plan_take (v:=?_) rfl (by kernel_rfl) ?_ ?_;rotate_left;(focus (intro w' hw';try go_simp;try with_reducible rfl));simp only [Act.put,pa1,pa2,pa3])
  refine plan_call rfl (by kernel_rfl) (by go_simp; exact ⟨rfl, rfl⟩) ?_
  refine (wT.out _).mono ?_
  rintro e w4 ⟨rfl,hb4⟩;have H4:=Yh (H3.out.drew.step hb4)
  clear t0 t1 t2 t3 t4
  refine ⟨_, rfl, hb4, ?_⟩
  simp only [Act.put,pa1,pa2,pa3]
  clear hb4 H3
  refine plan_call rfl (by kernel_rfl) (by go_simp; exact ⟨rfl, rfl⟩) ?_
  refine (og.out _).mono ?_
  rintro e w5 ⟨L,s,rfl,⟨hnc,kP,hns,_,_,⟨M,T,hK⟩,hrt,AV⟩,h5⟩;have H5:=Yh (aa.over H4.out h5)
  have pK:=Yh h5.bel
  have hcl:=hK.cl
  obtain ⟨f,hcf⟩:∃ f,L.cf[0]? = some f:=⟨_,List.getElem?_eq_getElem (by omega)⟩
  have HK:=Yh hK
  have lL:=Yh hcf
  have HN:=Yh (And.intro hnc (And.intro kP hns))
  have mO:=Yh (And.intro hrt AV)
  clear h5 hK hcf hnc kP hns hrt AV hcl H4 og wT
  refine ⟨_, rfl, pK.out, ?_⟩
  simp only [Act.put,pa1,pa2,pa3]
  iterate 5 (refine plan_take (v:=?_) rfl (by kernel_rfl) ?_ ?_;rotate_left;(focus (intro w' hw';try go_simp;try with_reducible rfl));simp only [Act.put,pa1,pa2,pa3])
  refine aG ?_
  clear pK
  go_wp2_with fail;refine (UL HK.out lL.out A bs cap HL.out xs HX.out H5.out).mono ?_
  rintro e w6 ⟨rfl,h6⟩;have H6:=Yh h6
  clear h6 H5;generalize hs1:({s with S:=ky L.n f bs s.S bs.length}:aC)=s1 at *;have oO:=Yh hs1
  clear hs1
  go_wp2_with fail;refine (UN 65536 _).mono ?_
  rintro e w7 ⟨rfl,hw7⟩;have H7:Hid (aa W (ae w6.heap.size 93 (dF 65536).cs::ax L s1 (aV xs::((os++[ae cb 26 c.cs])++[ae sb 126 (sZ c)]))) w7):=Yh (by rw [← hw7];exact H6.out.push (dF 65536).cs 93 (b:=w6.heap.size) rfl)
  clear hw7 H6;generalize w6.heap.size=cg at *;have H8:Hid (aa W (ax L s1 (aW cg (dF 65536)::ae w7.heap.size 88 #[.int .i64 (me:Int),pv L.sp,.pointer none,pv cg,.slice none 0 0,.int .i64 (-1)]::aV xs::((os++[ae cb 26 c.cs])++[ae sb 126 (sZ c)]))) (w7.alloc (.cells #[.int .i64 (me:Int),pv L.sp,.pointer none,pv cg,.slice none 0 0,.int .i64 (-1)] 88))):=Yh
    (aa.permA (xs:=ae w7.heap.size 88 #[.int .i64 (me:Int),pv L.sp,.pointer none,pv cg,.slice none 0 0,.int .i64 (-1)]::aW cg (dF 65536)::ax L s1 []) [2,3,4,5,6,7,8,9,10,11,1,0] (H7.out.push #[.int .i64 (me:Int),pv L.sp,.pointer none,pv cg,.slice none 0 0,.int .i64 (-1)] 88 (b:=w7.heap.size) rfl) (by decide) (show ∀ i,i∈[2,3,4,5,6,7,8,9,10,11,1,0]→i<12 by decide))
  clear H7;unfold pv at H8;have AX:=aa.dh (os:=ax L s1 (aW cg (dF 65536)::ae w7.heap.size 88 #[.int .i64 (me:Int),.pointer (some ⟨L.sp,0,none⟩),.pointer none,.pointer (some ⟨cg,0,none⟩),.slice none 0 0,.int .i64 (-1)]::aV xs::(os++[ae cb 26 c.cs]))) H8.out
  have GD:Blk _ cb 26 c.cs:=aa.dh (os:=ax L s1 (aW cg (dF 65536)::ae w7.heap.size 88 #[.int .i64 (me:Int),.pointer (some ⟨L.sp,0,none⟩),.pointer none,.pointer (some ⟨cg,0,none⟩),.slice none 0 0,.int .i64 (-1)]::aV xs::os)) (aa.ja (os:=ax L s1 (aW cg (dF 65536)::ae w7.heap.size 88 #[.int .i64 (me:Int),.pointer (some ⟨L.sp,0,none⟩),.pointer none,.pointer (some ⟨cg,0,none⟩),.slice none 0 0,.int .i64 (-1)]::aV xs::(os++[ae cb 26 c.cs]))) H8.out)
  have z0:=AX.cell 0
  have z1:=AX.cell 1
  have z2:=AX.cell 2
  have z3:=GD.cell 0
  have VI:=AX.lt
  have VJ:=GD.lt
  simp only [sZ,Cf.cs,List.getElem?_toArray,List.getElem?_cons_zero,List.getElem?_cons_succ] at z0 z1 z2 z3
  have MB:Hid (∀ w os,aa W (ax L s1 os) w→Calls Tryz.prog 46 #[.int .i64 (me:Int),.int .i64 (c.n:Int),.pointer (some ⟨L.sp,0,none⟩),.agg #[.int .i64 1,.int .i64 (c.pr:Int),.int .i64 (c.sh:Int)]] w fun e w'=>∃ hg pb,e=.returned (.tuple #[.pointer (some ⟨hg,0,none⟩),.int .i64 0]) ∧
      aa W (ax L s1 (aR hg L.sp pb me c.n 1 c.pr c.sh::bA pb 0 (fun _=>none)::os)) w'):=Yh (fun w os h=>Uh (nc:=1) (np:=c.pr) (ns:=c.sh) (by have h1:=HK.out.n;have h2:=HN.out;rw [h1,h2.1,h2.2.1,h2.2.2]) (by omega) (by omega) HC.out.pr HC.out.sh.1 HC.out.sh.2 HC.out.n.1 HC.out.n.2 eF.out h)
  clear AX GD
  go_wp2_with fail;refine (MB.out _ _ H8.out).mono ?_
  rintro e w9 ⟨hg,pb,rfl,h9⟩;have H9:=Yh h9
  have CX:=h9.blk 13 rfl
  have hln:=CX.lt
  have z5:w9.cell? ⟨w7.heap.size,2,none⟩=some (.pointer none):=CX.cell 2
  have hfr:=fun i=>Blk.frozen CX i
  clear h9 CX H8 z0 z1 z2 z3 VI VJ MB;have CY:Blk w9 cb 26 c.cs:=aa.dh (os:=ax L s1 (aR hg L.sp pb me c.n 1 c.pr c.sh::bA pb 0 (fun _=>none)::aW cg (dF 65536)::ae w7.heap.size 88 #[.int .i64 (me:Int),.pointer (some ⟨L.sp,0,none⟩),.pointer none,.pointer (some ⟨cg,0,none⟩),.slice none 0 0,.int .i64 (-1)]::aV xs::os)) (aa.ja (os:=ax L s1 (aR hg L.sp pb me c.n 1 c.pr c.sh::bA pb 0 (fun _=>none)::aW cg (dF 65536)::ae w7.heap.size 88 #[.int .i64 (me:Int),.pointer (some ⟨L.sp,0,none⟩),.pointer none,.pointer (some ⟨cg,0,none⟩),.slice none 0 0,.int .i64 (-1)]::aV xs::(os++[ae cb 26 c.cs]))) H9.out)
  have z3:=CY.cell 0
  simp only [Cf.cs,List.getElem?_toArray,List.getElem?_cons_zero] at z3
  have VK:=CY.lt
  have MC:cb≠w7.heap.size:=jQ CY (H9.out.blk 13 rfl) (by decide)
  have ME:w7.heap.size≠cb:=fun e=>MC e.symm
  generalize w7.heap.size=ng at *;have lJ:Hid (aa W (ax L s1 (aR hg L.sp pb me c.n 1 c.pr c.sh::bA pb 0 (fun _=>none)::aW cg (dF 65536)::ae ng 88 (gp me L.sp hg cg (.slice none 0 0) (-1))::aV xs::((os++[ae cb 26 c.cs])++[ae sb 126 (sZ c)]))) (w9.setCell ⟨ng,2,none⟩ (.pointer (some ⟨hg,0,none⟩)))):=Yh (H9.out.ay 13 rfl 2 (.pointer (some ⟨hg,0,none⟩)))
  have z4:(w9.setCell ⟨ng,2,none⟩ (.pointer (some ⟨hg,0,none⟩))).cell? ⟨cb,0,none⟩=some (.int .i64 (c.n:Int)):=(World.cell?_setCell_other _ _ _ _ (by simp [ME])).trans z3
  clear CY
  go_wp2_with fail;have AL:Hid (aa W (ae cb 26 c.cs::ae ng 88 (gp me L.sp hg cg (.slice none 0 0) (-1))::jd me (fun _=>0) W.heap.size 0 (.slice none 0 0)::eZ me (fun _=>0) c 0::ax L s1 (aR hg L.sp pb me c.n 1 c.pr c.sh::bA pb 0 (fun _=>none)::aW cg (dF 65536)::aV xs::os)) (w9.setCell ⟨ng,2,none⟩ (.pointer (some ⟨hg,0,none⟩)))):=Yh (by
    have a1:aa W ((ax L s1 (aR hg L.sp pb me c.n 1 c.pr c.sh::bA pb 0 (fun _=>none)::aW cg (dF 65536)::ae ng 88 (gp me L.sp hg cg (.slice none 0 0) (-1))::aV xs::os))++[ae cb 26 c.cs]) _:=aa.ja (os:=(ax L s1 (aR hg L.sp pb me c.n 1 c.pr c.sh::bA pb 0 (fun _=>none)::aW cg (dF 65536)::ae ng 88 (gp me L.sp hg cg (.slice none 0 0) (-1))::aV xs::os))++[ae cb 26 c.cs]) lJ.out
    have a2:=aa.bG (bs:=[ae cb 26 c.cs]) a1
    have a3:aa W (ae cb 26 c.cs::ae ng 88 (gp me L.sp hg cg (.slice none 0 0) (-1))::ax L s1 (aR hg L.sp pb me c.n 1 c.pr c.sh::bA pb 0 (fun _=>none)::aW cg (dF 65536)::aV xs::os)) _:=aa.permA (xs:=ae cb 26 c.cs::ax L s1 [aR hg L.sp pb me c.n 1 c.pr c.sh,bA pb 0 (fun _=>none),aW cg (dF 65536),ae ng 88 (gp me L.sp hg cg (.slice none 0 0) (-1))]) [0,14,1,2,3,4,5,6,7,8,9,10,11,12,13] a2 (by decide) (show ∀ i,i∈[0,14,1,2,3,4,5,6,7,8,9,10,11,12,13]→i<15 by decide)
    have a4:=(a3.row0 W.heap.size 134 1).nR
    exact aa.permA (xs:=[qx,jd me (fun _=>0) W.heap.size 0 (.slice none 0 0),ae cb 26 c.cs,ae ng 88 (gp me L.sp hg cg (.slice none 0 0) (-1))]) [2,3,1,0] a4 (by decide) (show ∀ i,i∈[2,3,1,0]→i<4 by decide))
  clear lJ H9 z3 z4 z5 VK hln hfr MC ME;obtain ⟨i0,hi0,hz0,hz1,hz2⟩:=info_parts VF
  have VL:=Yh (fun w=>Md (c.win:Int) (c.wait:Int) (c.jc:Int) w (by have:=HC.out.win;omega) (by have:=HC.out.wait;have:=HC.out.jc;omega) (by have:=HC.out.wait;have:=HC.out.jc;omega))
  have VM:=Yh (fun W w (os:List Oj) (h:aa W os w)=>Me (c.room:Int) (by have:=HC.out.room;omega) h)
  go_loopw [76,77,78,79,80,81,82,83,84,85,86,87,88,89,90,91,92,93,94,95,96,97,98,99,100,101,102,103,104,105,106,107,108,109,110,111,112,113,114,115,116,117,12,13,14,15,16] (fun i _ _ _ _ _ _ _ _ _ _ _ _ _ _ _ _ _ _ _ _ _ _ _ _ _ _ _ _ _ _ _ _ _ _ _ _ _ _ _ _ _ _ _ _ _ _ wr=>∃ (k:Nat) (lk:Nat→Nat) (lv:Value),k≤c.n∧i=.int .i64 (k:Int)∧aa W (ae cb 26 c.cs::ae ng 88 (gp me L.sp hg cg lv (-1))::jd me lk W.heap.size k lv::eZ me lk c k::ax L s1 (aR hg L.sp pb me c.n 1 c.pr c.sh::bA pb 0 (fun _=>none)::aW cg (dF 65536)::aV xs::os)) wr) (fun i _ _ _ _ _ _ _ _ _ _ _ _ _ _ _ _ _ _ _ _ _ _ _ _ _ _ _ _ _ _ _ _ _ _ _ _ _ _ _ _ _ _ _ _ _ _ _=>c.n-(intOf i).toNat)
  case atStart=>exact ⟨0,fun _=>0,.slice none 0 0,Nat.zero_le _,rfl,AL.out⟩
  clear AL
  case round =>
    obtain ⟨k,lk,lv,hk,rfl,hO⟩:=hrel
    obtain ⟨A1,cp,rfl⟩:=lK (hO.owns 2 rfl)
    have HO:=Yh hO
    by_cases hkl:k<c.n
    · have tq:=Yh hkl
      have hki:(k:Int)<(c.n:Int):=by omega
      have bn:=hO.blk 1 rfl
      have bc:=hO.blk 0 rfl
      have c4:wr.cell? ⟨ng,4,none⟩=some (.slice A1 k cp):=bn.cell 4
      have hln:=bn.lt
      have hn16:=HC.out.n.2
      have hfr:=fun i=>Blk.frozen bn i
      have HA:=Yh (hO.step ((Below.refl _ _).alloc (Nat.le_refl _) (.cells #[.pointer none] 134)))
      clear hO bn bc;have e9:wrap64 ((k:Int)+1)=((k+1:Nat):Int):=by
        rw [IntWalk.wrap64_in _ (by omega)]
        omega
      have E9:=Yh e9
      clear e9;by_cases qI:k=me
      · have hb:((k:Int) != (me:Int))=false:=by simp [qI]
        have hb2:((k:Int)==(me:Int))=true:=by simp [qI]
        have wH:=Yh qI
        clear qI;generalize eB:(k:Int)=ki at *;have bZ:=Yh eB
        clear eB
        go_wp2_with (at_builtin;refine oL _ rfl (.tmp 83) (.tmp 84) _ rfl W.heap.size 134 i0 _ 1 8 Tryz.underlying86 hi0 hz0 hz1 hz2 rfl (by decide) _ k ((List.range k).map (gX me lk)) rfl (HA.out.owns 2 rfl) (wr.heap.size+1) (some ⟨wr.heap.size,0,none⟩) 1 1 [.pointer none] rfl (sO _ _ _) Mx (by unfold maxLen;omega) (by omega) (Nat.le_trans HO.out.bel.size (by simp)) ?_;intro v4 w4 hown hgrow hat;have HF:Hid (aa W (ae cb 26 c.cs::ae ng 88 (gp me L.sp hg cg (.slice A1 k cp) (-1))::aS W.heap.size 134 1 (k+1) v4 ((List.range k).map (gX me lk)++[.pointer none])::eZ me lk c k::ax L s1 (aR hg L.sp pb me c.n 1 c.pr c.sh::bA pb 0 (fun _=>none)::aW cg (dF 65536)::aV xs::os)) w4):=Yh (HA.out.grow 2 rfl hown hgrow hat);clear hown hgrow hat;obtain ⟨g4,q4,rfl,hg4,_⟩:=uR (HF.out.owns 2 rfl) (Nat.succ_ne_zero k);have tu:=HF.out.blk 1 rfl;have MF:w4.cell? ⟨ng,4,none⟩=some (.slice A1 k cp):=tu.cell 4;have hl4:=tu.lt;have yO:=(fun i=>Blk.frozen tu i);clear tu;have gW:Hid (aa W (ae cb 26 c.cs::ae ng 88 (gp me L.sp hg cg (.slice (some ⟨g4,0,none⟩) (k+1) q4) (-1))::aS W.heap.size 134 1 (k+1) (.slice (some ⟨g4,0,none⟩) (k+1) q4) ((List.range k).map (gX me lk)++[.pointer none])::eZ me lk c k::ax L s1 (aR hg L.sp pb me c.n 1 c.pr c.sh::bA pb 0 (fun _=>none)::aW cg (dF 65536)::aV xs::os)) (w4.setCell ⟨ng,4,none⟩ (.slice (some ⟨g4,0,none⟩) (k+1) q4))):=Yh (HF.out.ay 1 rfl 4 (.slice (some ⟨g4,0,none⟩) (k+1) q4)))
        go_roundw
        case rel =>
          refine ⟨k+1,je lk k 0,.slice (some ⟨g4,0,none⟩) (k+1) q4,tq.out,by rw [E9.out],?_⟩
          refine Mi (b:=0) ?_
          have e1:mK me (je lk k 0) c k=qx:=by unfold mK;rw [if_pos wH.out]
          have e2:gX me (je lk k 0) k=.pointer none:=by unfold gX;rw [if_pos wH.out]
          rw [e1,e2];exact gW.out.nR
        case measure =>
          rw [E9.out];show c.n-((k+1:Nat):Int).toNat<c.n-ki.toNat
          have h1:=tq.out
          have h2:=bZ.out
          omega
      · have hb:((k:Int) != (me:Int))=true:=by simp;omega
        have hb2:((k:Int)==(me:Int))=false:=by simp;omega
        have wH:=Yh qI
        clear qI
        go_wp2_with (at_builtin;refine oL _ rfl (.tmp 83) (.tmp 84) _ rfl W.heap.size 134 i0 _ 1 8 Tryz.underlying86 hi0 hz0 hz1 hz2 rfl (by decide) _ k ((List.range k).map (gX me lk)) rfl (HA.out.owns 2 rfl) (wr.heap.size+1) (some ⟨wr.heap.size,0,none⟩) 1 1 [.pointer none] rfl (sO _ _ _) Mx (by unfold maxLen;omega) (by omega) (Nat.le_trans HO.out.bel.size (by simp)) ?_;intro v4 w4 hown hgrow hat;have HF:Hid (aa W (ae cb 26 c.cs::ae ng 88 (gp me L.sp hg cg (.slice A1 k cp) (-1))::aS W.heap.size 134 1 (k+1) v4 ((List.range k).map (gX me lk)++[.pointer none])::eZ me lk c k::ax L s1 (aR hg L.sp pb me c.n 1 c.pr c.sh::bA pb 0 (fun _=>none)::aW cg (dF 65536)::aV xs::os)) w4):=Yh (HA.out.grow 2 rfl hown hgrow hat);clear hown hgrow hat;obtain ⟨g4,q4,rfl,hg4,_⟩:=uR (HF.out.owns 2 rfl) (Nat.succ_ne_zero k);have tu:=HF.out.blk 1 rfl;have MF:w4.cell? ⟨ng,4,none⟩=some (.slice A1 k cp):=tu.cell 4;have hl4:=tu.lt;have yO:=(fun i=>Blk.frozen tu i);clear tu;have gW:Hid (aa W (ae cb 26 c.cs::ae ng 88 (gp me L.sp hg cg (.slice (some ⟨g4,0,none⟩) (k+1) q4) (-1))::aS W.heap.size 134 1 (k+1) (.slice (some ⟨g4,0,none⟩) (k+1) q4) ((List.range k).map (gX me lk)++[.pointer none])::eZ me lk c k::ax L s1 (aR hg L.sp pb me c.n 1 c.pr c.sh::bA pb 0 (fun _=>none)::aW cg (dF 65536)::aV xs::os)) (w4.setCell ⟨ng,4,none⟩ (.slice (some ⟨g4,0,none⟩) (k+1) q4))):=Yh (HF.out.ay 1 rfl 4 (.slice (some ⟨g4,0,none⟩) (k+1) q4));have AY:=gW.out.blk 0 rfl;have y5:(w4.setCell ⟨ng,4,none⟩ (.slice (some ⟨g4,0,none⟩) (k+1) q4)).cell? ⟨cb,5,none⟩=some (.int .i64 (c.win:Int)):=AY.cell 5;have y7:(w4.setCell ⟨ng,4,none⟩ (.slice (some ⟨g4,0,none⟩) (k+1) q4)).cell? ⟨cb,7,none⟩=some (.int .i64 (c.wait:Int)):=AY.cell 7;have y8:(w4.setCell ⟨ng,4,none⟩ (.slice (some ⟨g4,0,none⟩) (k+1) q4)).cell? ⟨cb,8,none⟩=some (.int .i64 (c.jc:Int)):=AY.cell 8;have VN:=AY.lt;clear AY)
        refine (VL.out _).mono ?_
        rintro e VO ⟨rfl,nH⟩;have H5:=Yh (gW.out.push (nG c.win c.wait c.jc) 171 rfl)
        rw [nH] at H5;have wU:=H5.out.blk 1 rfl
        have y6:VO.cell? ⟨cb,6,none⟩=some (.int .i64 (c.room:Int)):=wU.cell 6
        have abD:=wU.lt
        clear wU y5 y7 y8 VN MF hl4 yO HF gW nH;generalize (w4.setCell ⟨ng,4,none⟩ (.slice (some ⟨g4,0,none⟩) (k+1) q4)).heap.size=sd at *
        go_wp2_with fail;refine (VM.out _ _ _ H5.out).mono ?_
        rintro e oh ⟨rv,mb,rfl,h6⟩;have H6:=Yh h6
        have GG:=h6.blk 4 rfl
        have x4:oh.cell? ⟨ng,4,none⟩=some (.slice (some ⟨g4,0,none⟩) (k+1) q4):=GG.cell 4
        have GH:=GG.lt
        have H7:Hid (aa W (ae oh.heap.size 136 #[pv sd,pv rv,.bool false]::ae rv 174 #[.int .i64 (c.room:Int),.int .u64 1,.map (some mb)]::mq .u64 40 (.slice none 0 0) mb 0 (fun _=>none)::ae sd 171 (nG c.win c.wait c.jc)::ae cb 26 c.cs::ae ng 88 (gp me L.sp hg cg (.slice (some ⟨g4,0,none⟩) (k+1) q4) (-1))::aS W.heap.size 134 1 (k+1) (.slice (some ⟨g4,0,none⟩) (k+1) q4) ((List.range k).map (gX me lk)++[.pointer none])::eZ me lk c k::ax L s1 (aR hg L.sp pb me c.n 1 c.pr c.sh::bA pb 0 (fun _=>none)::aW cg (dF 65536)::aV xs::os)) (oh.alloc (.cells #[pv sd,pv rv,.bool false] 136))):=Yh (h6.push #[pv sd,pv rv,.bool false] 136 rfl)
        have yw:=H7.out.owns 6 rfl
        have x7:(oh.alloc (.cells #[pv sd,pv rv,.bool false] 136)).cell? ⟨g4,k,none⟩=some (.pointer none):=by
          rw [yw.cellAt k (by omega),List.getElem?_append_right (by simp)]
          simp
        have VP:=U5 yw
        have sP:g4<(oh.alloc (.cells #[pv sd,pv rv,.bool false] 136)).heap.size:=cB x7
        have hkk:(k:Int)<((k+1:Nat):Int):=by omega
        have abE:(0:Int)≤(k:Int):=by omega
        have hkt:((k:Int)).toNat=k:=by omega
        clear yw h6 GG H5 H6 hg4;unfold pv at x7 VP sP
        go_wp2_with fail;have H8:=H7.out.UI 6 rfl k (pv oh.heap.size)
        have e3:((List.range k).map (gX me lk)++[Value.pointer none]).set k (pv oh.heap.size)=(List.range k).map (gX me lk)++[gX me (je lk k oh.heap.size) k]:=by
          rw [List.set_append_right _ _ (by simp)]
          unfold gX je;rw [if_neg wH.out,if_pos rfl];simp
        rw [e3] at H8;have H9:=aa.permA (xs:=[ae oh.heap.size 136 #[pv sd,pv rv,.bool false],ae rv 174 #[.int .i64 (c.room:Int),.int .u64 1,.map (some mb)],mq .u64 40 (.slice none 0 0) mb 0 (fun _=>none),ae sd 171 (nG c.win c.wait c.jc)]) [0,3,1,2] H8 (by decide) (show ∀ i,i∈[0,3,1,2]→i<4 by decide)
        have lJ:=Yh (Mj H9)
        clear H8 H9 e3
        go_roundw
        case rel =>
          refine ⟨k+1,je lk k oh.heap.size,.slice (some ⟨g4,0,none⟩) (k+1) q4,tq.out,rfl,?_⟩
          refine Mi (b:=oh.heap.size) ?_
          have e1:mK me (je lk k oh.heap.size) c k=CS oh.heap.size c:=by
            unfold mK je;rw [if_neg wH.out,if_pos rfl]
          rw [e1];exact lJ.out
        case measure =>
          show c.n-((k:Int)+1).toNat<c.n-((k:Int)).toNat
          have h1:=tq.out
          omega
    · obtain rfl:k=c.n:=by omega
      have VQ:¬ (c.n<c.n):=Nat.lt_irrefl _
      clear hO
      go_wp2_with fail
      go_ret2
      refine ⟨⟨ng,hg,pb,cg,me,.slice A1 c.n cp,W.heap.size,lk,L⟩,s1,f,M,T,rfl,⟨rfl,HN.out.1,HN.out.2.1,HN.out.2.2,?_,?_,?_⟩,?_⟩
      · have h1:=(HK.out.LZ (List.mem_of_getElem? lL.out) bs bs.length HL.out).1
        have h2:=HK.out.codeOf (List.mem_of_getElem? lL.out) bs HB.out HL.out
        rw [oO.out] at h1 h2;exact ⟨h1,lL.out,h2⟩
      · intro p
        rw [← mO.out.1 p,← oO.out]
        rfl
      · intro p
        have h1:=(HK.out.LZ (List.mem_of_getElem? lL.out) bs bs.length HL.out).2 p
        rw [oO.out] at h1;rw [h1];exact mO.out.2 p
      · have h1:=HO.out.drop 1
        show aa W (ax L s1 (aW cg (dF 65536)::ae ng 88 (gp me L.sp hg cg (.slice A1 c.n cp) (-1))::aR hg L.sp pb me c.n L.nc L.np L.ns::bA pb 0 (fun _=>none)::jd me lk W.heap.size c.n (.slice A1 c.n cp)::eZ me lk c c.n::aV xs::os)) _
        rw [HN.out.1,HN.out.2.1,HN.out.2.2];exact aa.permA (xs:=ae ng 88 (gp me L.sp hg cg (.slice A1 c.n cp) (-1))::jd me lk W.heap.size c.n (.slice A1 c.n cp)::eZ me lk c c.n::ax L s1 [aR hg L.sp pb me c.n 1 c.pr c.sh,bA pb 0 (fun _=>none),aW cg (dF 65536)]) [3,4,5,6,7,8,9,10,11,12,15,0,13,14,1,2] h1 (by decide) (show ∀ i,i∈[3,4,5,6,7,8,9,10,11,12,15,0,13,14,1,2]→i<16 by decide)
end
section
variable {W w:World} {os:List Oj} {L:bL} {s:aC} {g:Nat} {c:aD} {f o:Nat} {bs:List Nat} {M:List Mp} {T:List Tb} {i:In}
theorem aa.VR (h:aa W (ax L s os) w) (x:Nat × Int × List (List En)):fZ L.n s.S x 8<18446744073709551616:=by
  obtain ⟨F,hF,_⟩:=h.get 3 _ rfl
  unfold fZ
  split
  · exact hF.EH _
  · decide
theorem VS (hR:Rd L s f bs M T) {rd ah:Int} {rs rt:Nat} (hI:Ins bs o ⟨22,rd,rs,rt,ah⟩) (hs:rs<16) (ht:rt<16) (hc:c.Ok) (hpc:c.pc=65536+o) (hrun:c.run=0) (pick:Int) (hpk:-9223372036854775808≤pick∧pick<9223372036854775808)
    {p q:Nat} (hp:p<L.ns) (hq:q<4096) (h8:q % 8=0) (hva:wd (c.r.getD rs 0+ah)=aA p+q) (hok:yG (s.rt p) 1=true) (h:aa W (ax L s (aW g c::os)) w):
    Calls Tryz.prog 82 #[.pointer (some ⟨g,0,none⟩),.pointer (some ⟨L.ub,0,none⟩),.int .i64 pick] w fun e w'=>∃ (s2:aC) (c2:aD) (d2:bJ),(Rd L s2 f bs M T∧Same s s2∧(∃ v,v<18446744073709551616∧c2=(c.cO rd v).to (wd (c.pc+4)))∧d2.done=true∧d2.size=8∧d2.addr=aA p+q)∧e=.returned (.agg d2.arr)∧aa W (ax L s2 (aW g c2::os)) w':=by
  have e8:dJ 22=8:=by decide
  refine yN (P:=fun s2 c2 d2=>Rd L s2 f bs M T∧Same s s2∧(∃ v,v<18446744073709551616∧c2=(c.cO rd v).to (wd (c.pc+4)))∧d2.done=true∧d2.size=8∧d2.addr=aA p+q) hR hI hc hpc hrun pick hpk (fun s1 w os' db h1 h2 ho=>?_) h
  obtain ⟨g1,_,g3⟩:=h1.ok.place hp hq (F3 (by unfold aA;omega)) (size:=8) (a:=1) (.inl rfl) pick
  rw [h2.rt p] at g1;obtain ⟨f1,_,_,g2⟩:=g1 hok
  have hlt:=aa.VR ho
  have htl:∀ x,wK 22 (fZ L.n s1.S x 8)<18446744073709551616:=fun x=>by
    have:=hlt x
    unfold wK vT;rw [e8]
    split
    · simpa using this
    · exact this
  refine (Gd 22 rd ah rs rt 7 (by decide) (.inl rfl) pick (-1) (s1:={s1 with T:=(fK L s1 (aA p+q) 8 1 pick).2.2}) (s2:=s1) (c1:=c.cO rd (wK 22 (fZ L.n s1.S (fK L s1 (aA p+q) 8 1 pick) 8)))
    (d1:={jC ⟨22,rd,rs,rt,ah⟩ c.pc with access:=1,addr:=aA p+q,size:=8,old:=fZ L.n s1.S (fK L s1 (aA p+q) 8 1 pick) 8,new:=0}) (d2:=jC lF 0) (hc.cO (htl _)) rfl (fun w os' ho=>?_) ho).mono ?_
  · refine (Ur hc 22 rd ah rs rt hs ht (by decide) pick hpk (CF h1.ok) (fun x=>by rw [e8];exact hlt x) rfl ho).mono ?_
    rintro e w' ⟨va,hv,x,hx,rfl,k1,k2⟩;rw [hva] at hv;subst hv;rw [e8] at hx k1;subst hx;have g2':(fK L s1 (aA p+q) 8 1 pick).2.1 = -1:=g2
    exact ⟨by rw [g2'],fun _=>k1 g2',fun n=>absurd rfl n⟩
  · rintro e w' ⟨rfl,k1,_⟩
    refine ⟨rfl,_,_,_,⟨⟨h1.ok.buf' g3,h1.cf,h1.code.same rfl⟩,⟨h2.data,h2.rt⟩,⟨_,htl (fK L s1 (aA p+q) 8 1 pick),?_⟩,rfl,rfl,rfl⟩,k1 rfl⟩
    rw [aD.LX]
theorem VT (hR:Rd L s f bs M T) {rd ah:Int} {rs rt:Nat} (hI:Ins bs o ⟨29,rd,rs,rt,ah⟩) (hs:rs<16) (ht:rt<16) (hc:c.Ok) (hpc:c.pc=65536+o) (hrun:c.run=0) (pick:Int) (hpk:-9223372036854775808≤pick∧pick<9223372036854775808)
    {p q:Nat} (hp:p<L.ns) (hq:q<4096) (h8:q % 8=0) (hva:wd (c.r.getD rs 0+ah)=aA p+q) (hok:yG (s.rt p) 2=true) (h:aa W (ax L s (aW g c::os)) w):
    Calls Tryz.prog 82 #[.pointer (some ⟨g,0,none⟩),.pointer (some ⟨L.ub,0,none⟩),.int .i64 pick] w fun e w'=>∃ (s2:aC) (c2:aD) (d2:bJ),(Rd L s2 f bs M T∧(∀ r,s2.rt r=s.rt r)∧(∀ r,s2.data r=if r=p then gV (s.data p) q (c.r.getD rt 0) 8 else s.data r)∧c2=c.to (wd (c.pc+4))∧d2.done=true∧d2.size=8∧d2.addr=aA p+q)∧e=.returned (.agg d2.arr)∧aa W (ax L s2 (aW g c2::os)) w':=by
  have e8:dJ 29=8:=by decide
  refine yN (P:=fun s2 c2 d2=>Rd L s2 f bs M T∧(∀ r,s2.rt r=s.rt r)∧(∀ r,s2.data r=if r=p then gV (s.data p) q (c.r.getD rt 0) 8 else s.data r)∧c2=c.to (wd (c.pc+4))∧d2.done=true∧d2.size=8∧d2.addr=aA p+q) hR hI hc hpc hrun pick hpk (fun s1 w os' db h1 h2 ho=>?_) h
  obtain ⟨g1,_,g3⟩:=h1.ok.place hp hq (F3 (by unfold aA;omega)) (size:=8) (a:=2) (.inr rfl) pick
  rw [h2.rt p] at g1;obtain ⟨f1,hsh,g4,g2⟩:=g1 hok
  obtain ⟨j1,j2⟩:=h1.ok.stored (v:=c.r.getD rt 0) hsh hq h8 g3
  obtain ⟨_,f',e',_,_,hfc,_⟩:=h1.ok.iw p _ hsh
  obtain rfl:f1=f':=by omega
  have hne:f1≠f:=fun e=>hfc (by rw [e];exact List.mem_of_getElem? h1.cf)
  refine (Gd 29 rd ah rs rt 8 (by decide) (.inr rfl) pick (-1) (s1:={s1 with T:=(fK L s1 (aA p+q) 8 2 pick).2.2,S:=qG L.n s1.S (fK L s1 (aA p+q) 8 2 pick) 8 (c.r.getD rt 0) }) (s2:=s1) (c1:=c)
    (d1:={jC ⟨29,rd,rs,rt,ah⟩ c.pc with access:=2,addr:=aA p+q,size:=8,new:=cutV (c.r.getD rt 0) 8}) (d2:=jC lF 0) hc rfl (fun w os' ho=>?_) ho).mono ?_
  · refine (LV hc 29 rd ah rs rt hs ht (by decide) pick hpk (CF h1.ok) rfl ho).mono ?_
    rintro e w' ⟨va,hv,x,hx,rfl,k1,k2⟩;rw [hva] at hv;subst hv;rw [e8] at hx k1;subst hx;have g2':(fK L s1 (aA p+q) 8 2 pick).2.1 = -1:=g2
    exact ⟨by rw [g2'],fun _=>k1 g2',fun n=>absurd rfl n⟩
  · rintro e w' ⟨rfl,k1,_⟩
    have eS:qG L.n s1.S (fK L s1 (aA p+q) 8 2 pick) 8 (c.r.getD rt 0)=bH L.n s1.S (f1*4096+q) 8 (c.r.getD rt 0):=by
      unfold qG fK;rw [if_pos g2,g4]
    rw [eS] at k1;refine ⟨rfl,_,_,_,⟨⟨j1,h1.cf,h1.code.same (sS (by omega))⟩,h2.rt,fun r=>?_,rfl,rfl,rfl,rfl⟩,k1 rfl⟩
    rw [j2,h2.data p,h2.data r]
theorem VU (hR:Rd L s f bs M T) {rd ah:Int} {rs rt:Nat} (hI:Ins bs o ⟨29,rd,rs,rt,ah⟩) (hs:rs<16) (ht:rt<16) (hc:c.Ok) (hpc:c.pc=65536+o) (hrun:c.run=0) (pick:Int) (hpk:-9223372036854775808≤pick∧pick<9223372036854775808)
    {p q:Nat} (hp:p<L.ns) (hq:q<4096) (h8:q % 8=0) (hva:wd (c.r.getD rs 0+ah)=aA p+q) (hok:yG (s.rt p) 2=false) (h:aa W (ax L s (aW g c::os)) w):
    Calls Tryz.prog 82 #[.pointer (some ⟨g,0,none⟩),.pointer (some ⟨L.ub,0,none⟩),.int .i64 pick] w fun e w'=>∃ (s2:aC) (c2:aD) (d2:bJ),(Rd L s2 f bs M T∧Same s s2∧c2=c∧d2.done=false∧d2.size=8∧d2.addr=aA p+q∧d2.cause=15∧d2.access=2)∧e=.returned (.agg d2.arr)∧aa W (ax L s2 (aW g c2::os)) w':=by
  have e8:dJ 29=8:=by decide
  refine yN (P:=fun s2 c2 d2=>Rd L s2 f bs M T∧Same s s2∧c2=c∧d2.done=false∧d2.size=8∧d2.addr=aA p+q∧d2.cause=15∧d2.access=2) hR hI hc hpc hrun pick hpk (fun s1 w os' db h1 h2 ho=>?_) h
  obtain ⟨_,g1,g3⟩:=h1.ok.place hp hq (F3 (by unfold aA;omega)) (size:=8) (a:=2) (.inr rfl) pick
  rw [h2.rt p] at g1;obtain ⟨_,g2⟩:=g1 hok
  have g2':(fK L s1 (aA p+q) 8 2 pick).2.1=15:=g2
  have eS:qG L.n s1.S (fK L s1 (aA p+q) 8 2 pick) 8 (c.r.getD rt 0)=s1.S:=by
    unfold qG;rw [if_neg (by rw [g2'];decide)]
  refine (Gd 29 rd ah rs rt 8 (by decide) (.inr rfl) pick 15 (s1:=s1) (s2:={s1 with T:=(fK L s1 (aA p+q) 8 2 pick).2.2}) (c1:=c)
    (d1:=jC lF 0) (d2:={jC ⟨29,rd,rs,rt,ah⟩ c.pc with access:=2,addr:=aA p+q,size:=8,old:=0,new:=0}) hc rfl (fun w os' ho=>?_) ho).mono ?_
  · refine (LV hc 29 rd ah rs rt hs ht (by decide) pick hpk (CF h1.ok) rfl ho).mono ?_
    rintro e w' ⟨va,hv,x,hx,rfl,k1,k2⟩;rw [hva] at hv;subst hv;rw [e8] at hx k2;subst hx;rw [eS] at k2;exact ⟨by rw [g2'],fun n=>absurd n (by decide),fun _=>k2 (by rw [g2'];decide)⟩
  · rintro e w' ⟨rfl,_,k2⟩
    refine ⟨rfl,_,_,_,⟨⟨h1.ok.buf' g3,h1.cf,h1.code.same rfl⟩,⟨h2.data,h2.rt⟩,rfl,rfl,rfl,rfl,rfl,rfl⟩,k2 (by decide)⟩
end
def aB (what:Int) (d:bJ) (page:Int):Array Value:=#[.int .i64 what,.bool d.done,.int .i64 d.i.op,.int .i64 d.i.rd,.int .i64 d.i.rs,.int .i64 d.i.rt,.int .i64 d.i.ah,.int .u64 (d.pc:Int),.int .i64 d.cause,.int .i64 d.access,.int .u64 (d.addr:Int),.int .i64 d.size,.int .u64 (d.old:Int),.int .u64 (d.new:Int),.int .i64 page]
def jD:bJ:=⟨false,lF,0,0,0,0,0,0,0⟩
theorem fE (a:Int) (d:bJ) (b:Int):dO Tryz.prog 46 (aB a d b).size=true:=by
  show dO Tryz.prog 46 15=true
  kernel_rfl
theorem mP (a:Int) (d:bJ) (b:Int):(aB a d b).all (·.oneCell')=true:=by simp [aB,Value.oneCell']
theorem yP (ng cg:Nat) (w:World) (c:w.cell? ⟨ng,3,none⟩=some (pv cg)):Calls Tryz.prog 13 #[.pointer (some ⟨ng,0,none⟩)] w fun e w'=>e=.returned (.pointer (some ⟨cg,0,none⟩))∧w=w':=by
  have hl:=cB c
  unfold pv at c;go_enter Tryz.func13,Tryz.ntmps13
  go_wp2_with fail;go_ret
  exact ⟨rfl,rfl⟩
theorem VV (ng sp:Nat) (w:World) (c:w.cell? ⟨ng,1,none⟩=some (pv sp)):Calls Tryz.prog 31 #[.pointer (some ⟨ng,0,none⟩)] w fun e w'=>e=.returned (.pointer (some ⟨sp,0,none⟩))∧w=w':=by
  have hl:=cB c
  unfold pv at c;go_enter Tryz.func31,Tryz.ntmps31
  go_wp2_with fail;go_ret
  exact ⟨rfl,rfl⟩
theorem VW (ng hg:Nat) (w:World) (c:w.cell? ⟨ng,2,none⟩=some (pv hg)):Calls Tryz.prog 29 #[.pointer (some ⟨ng,0,none⟩)] w fun e w'=>e=.returned (.pointer (some ⟨hg,0,none⟩))∧w=w':=by
  have hl:=cB c
  unfold pv at c;go_enter Tryz.func29,Tryz.ntmps29
  go_wp2_with fail;go_ret
  exact ⟨rfl,rfl⟩
theorem MG (ng:Nat) (w:World):Calls Tryz.prog 87 #[.pointer (some ⟨ng,0,none⟩),.slice none 0 0] w fun e w'=>e=.returned (.tuple #[])∧w=w':=by
  go_enter Tryz.func87,Tryz.ntmps87
  go_wp2_with fail;refine wp_loop_rounds 1 ?_
  rw [rounds_succ]
  go_wp2_with fail;refine bodyPost_end (results_none rfl _ _ _) rfl ?_
  exact ⟨rfl,rfl⟩
theorem VX (sp va:Nat) (hv:va<1073741824) (w:World):Calls Tryz.prog 132 #[.pointer (some ⟨sp,0,none⟩),.int .u64 (va:Int)] w fun e w'=>e=.returned (.tuple #[.int .i64 0,.bool false])∧w=w':=by
  have e1:decide ((va:Int)<1073741824)=true:=by simp;omega
  clear hv;generalize (va:Int)=v at *;go_enter Tryz.func132,Tryz.ntmps132
  go_wp2_with fail
  go_ret2
  exact ⟨rfl,rfl⟩
section
variable {W w:World} {os:List Oj}
theorem VY (d:bJ) (hs:d.size=8) (hc:d.cause=15) (w:World):Calls Tryz.prog 85 #[.agg d.arr] w fun e w'=>e=.returned (.bool true)∧Below w.heap.size w w':=by
  obtain ⟨dn,⟨o,rd,rs,rt,im⟩,pc,ca,ac,ad,sz,ol,nw⟩:=d
  obtain rfl:sz=8:=hs
  obtain rfl:ca=15:=hc
  have HB:=Yh ((Below.refl w.heap.size w).alloc (Nat.le_refl _) (.cells #[Value.bool dn,.int .i64 o,.int .i64 rd,.int .i64 rs,.int .i64 rt,.int .i64 im,.int .u64 (pc:Int),.int .i64 15,.int .i64 ac,.int .u64 (ad:Int),.int .i64 8,.int .u64 (ol:Int),.int .u64 (nw:Int)] 44))
  have hx:Blk (w.alloc (.cells #[Value.bool dn,.int .i64 o,.int .i64 rd,.int .i64 rs,.int .i64 rt,.int .i64 im,.int .u64 (pc:Int),.int .i64 15,.int .i64 ac,.int .u64 (ad:Int),.int .i64 8,.int .u64 (ol:Int),.int .u64 (nw:Int)] 44)) w.heap.size 44 _:=aI.bM _ _ _ _ rfl
  have c7:=hx.cell 7
  have c10:=hx.cell 10
  simp only [List.getElem?_toArray,List.getElem?_cons_zero,List.getElem?_cons_succ] at c7 c10
  have hl:=hx.lt
  clear hx;unfold bJ.arr;go_enter Tryz.func85,Tryz.ntmps85
  go_wp2_with fail;go_ret
  exact ⟨rfl,HB.out⟩
end
structure AZ (c:Cf) (i ng:Nat) (bs:List Nat) where
  x:eD
  s:aC
  f:Nat
  M:List Mp
  T:List Tb
  me:x.me=i
  ng:x.ng=ng
  nc:x.L.nc=1
  np:x.L.np=c.pr
  ns:x.L.ns=c.sh
  rd:Rd x.L s f bs M T
  rt:∀ p,s.rt p=0
  da:∀ p,s.data p=aU
def dV (c:Cf) (i ng:Nat) (bs:List Nat):Oj:=Af (fun (t:AZ c i ng bs)=>o5 (aL c t.x t.s (dF 65536) (-1) 0 (fun _=>none) []))
def MH (nv:Value) (sh aH:Nat) (tick steps bad:Int) (fv ov:Value):Array Value:=#[nv,.int .i64 (sh:Int),pv aH,.int .i64 tick,.int .i64 steps,.int .i64 bad,fv,ov]
def ek (aH:Nat):Oj:=ae aH 83 #[.slice none 0 0,.int .i64 0]
def eu (cb:Nat) (nv:Value) (sh aH:Nat) (tick steps bad:Int) (fv ov:Value):Oj:=ae cb 75 (MH nv sh aH tick steps bad fv ov)
theorem VZ (cb aH:Nat) (w:World) (c:w.cell? ⟨cb,2,none⟩=some (pv aH)):Calls Tryz.prog 10 #[.pointer (some ⟨cb,0,none⟩)] w fun e w'=>e=.returned (.pointer (some ⟨aH,0,none⟩))∧w=w':=by
  have hl:=cB c
  unfold pv at c;go_enter Tryz.func10,Tryz.ntmps10
  go_wp2_with fail;go_ret
  exact ⟨rfl,rfl⟩
theorem V3 (aH:Nat) (w:World) (c:w.cell? ⟨aH,0,none⟩=some (.slice none 0 0)):Calls Tryz.prog 11 #[.pointer (some ⟨aH,0,none⟩)] w fun e w'=>e=.returned (.int .i64 0)∧w=w':=by
  have hl:=cB c
  go_enter Tryz.func11,Tryz.ntmps11
  go_wp2_with fail;go_ret
  exact ⟨rfl,rfl⟩
theorem V4 (w:World):Calls Tryz.prog 23 #[] w fun e w'=>e=.returned (.pointer (some ⟨w.heap.size,0,none⟩))∧w.alloc (.cells #[.slice none 0 0,.int .i64 0] 83)=w':=by
  go_enter Tryz.func23,Tryz.ntmps23
  go_wp2_with fail;go_ret
  exact ⟨rfl,rfl⟩
theorem MI (cb:Nat) (A:Option Addr) (n q:Nat) (w:World) (c:w.cell? ⟨cb,0,none⟩=some (.slice A n q)):Calls Tryz.prog 17 #[.pointer (some ⟨cb,0,none⟩)] w fun e w'=>e=.returned (.int .i64 (n:Int))∧w=w':=by
  have hl:=cB c
  go_enter Tryz.func17,Tryz.ntmps17
  go_wp2_with fail;go_ret
  exact ⟨rfl,rfl⟩
theorem MJ (cb g n q i ng:Nat) (hi:i<n) (w:World) (c:w.cell? ⟨cb,0,none⟩=some (.slice (some ⟨g,0,none⟩) n q)) (c2:w.cell? ⟨g,i,none⟩=some (pv ng)):Calls Tryz.prog 12 #[.pointer (some ⟨cb,0,none⟩),.int .i64 (i:Int)] w fun e w'=>e=.returned (.pointer (some ⟨ng,0,none⟩))∧w=w':=by
  have hl:=cB c
  have hl2:g<w.heap.size:=cB c2
  have c3:w.cell? ⟨g,((i:Int)).toNat,none⟩=some (.pointer (some ⟨ng,0,none⟩)):=c2
  have e1:decide ((i:Int)<0)=false:=by simp
  have e2:decide ((n:Int)≤(i:Int))=false:=by rw [decide_eq_false_iff_not];omega
  have h1:(0:Int)≤(i:Int):=by omega
  have h2:(i:Int)<(n:Int):=by omega
  clear c2 hi;generalize (i:Int)=ii at *;go_enter Tryz.func12,Tryz.ntmps12
  go_wp2_with fail;go_ret
  exact ⟨rfl,rfl⟩
section
variable {W w:World} {os:List Oj} {c:Cf}
theorem MK {i ng:Nat} {bs:List Nat} (t:AZ c i ng bs) (h:aa W (aL c t.x t.s (dF 65536) (-1) 0 (fun _=>none) os) w):aa W (dV c i ng bs::os) w:=
  aa.close (f:=fun (t:AZ c i ng bs)=>o5 (aL c t.x t.s (dF 65536) (-1) 0 (fun _=>none) [])) t (aa.xY (xs:=aL c t.x t.s (dF 65536) (-1) 0 (fun _=>none) []) h)
theorem ML {i ng:Nat} {bs:List Nat} (h:aa W (dV c i ng bs::os) w):∃ t:AZ c i ng bs,aa W (aL c t.x t.s (dF 65536) (-1) 0 (fun _=>none) os) w:=by
  obtain ⟨t,h1⟩:=aa.open_ h
  exact ⟨t,aa.vY h1⟩
end
def kz (nl:Nat→Nat) (k b:Nat):Nat→Nat:=fun j=>if j=k then b else nl j
def dM (nb n:Nat) (nl:Nat→Nat) (nv:Value):Oj:=aS nb 56 1 n nv ((List.range n).map (fun i=>pv (nl i)))
def jE (c:Cf) (n:Nat) (nl:Nat→Nat) (bs:Nat→List Nat):Oj:=o5 ((List.range n).map (fun i=>dV c i (nl i) (bs i)))
theorem V5:(Tryz.prog.info? 56).map (fun i=>(i.zero,i.size,i.bytes))=some (some (.pointer none),1,8):=by kernel_rfl
theorem MM (b:Nat):∀ u∈[pv b],u.oneCell'=true:=by
  intro u hu;simp at hu;subst hu;rfl
section
variable {W w:World} {os:List Oj} {c:Cf}
theorem MN {A B C:Oj} {k b nb:Nat} {nl:Nat→Nat} {bs:Nat→List Nat} {v:Value} (h:aa W (dV c k b (bs k)::A::B::C::aS nb 56 1 (k+1) v ((List.range k).map (fun i=>pv (nl i))++[pv b])::jE c k nl bs::os) w):aa W (A::B::C::dM nb (k+1) (kz nl k b) v::jE c (k+1) (kz nl k b) bs::os) w:=by
  have e:(List.range k).map (fun i=>pv (nl i))++[pv b]=(List.range (k+1)).map (fun i=>pv (kz nl k b i)):=by
    rw [List.range_succ,List.map_append];have e1:(List.range k).map (fun i=>pv (kz nl k b i))=(List.range k).map (fun i=>pv (nl i)):=List.map_congr_left fun j hj=>by
      have:=List.mem_range.1 hj
      unfold kz;rw [if_neg (show ¬ j=k by omega)]
    rw [e1];simp [kz]
  rw [e] at h;have h2:=aa.permA (xs:=[dV c k b (bs k),A,B,C,dM nb (k+1) (kz nl k b) v,jE c k nl bs]) [5,0,1,2,3,4] h (by decide) (show ∀ i,i∈[5,0,1,2,3,4]→i<6 by decide)
  have h3:aa W ((List.range k).map (fun i=>dV c i (nl i) (bs i))++dV c k b (bs k)::A::B::C::dM nb (k+1) (kz nl k b) v::os) w:=aa.vY h2
  have e2:(List.range (k+1)).map (fun i=>dV c i (kz nl k b i) (bs i))=(List.range k).map (fun i=>dV c i (nl i) (bs i))++[dV c k b (bs k)]:=by
    rw [List.range_succ,List.map_append];have e1:(List.range k).map (fun i=>dV c i (kz nl k b i) (bs i))=(List.range k).map (fun i=>dV c i (nl i) (bs i)):=List.map_congr_left fun j hj=>by
      have:=List.mem_range.1 hj
      unfold kz;rw [if_neg (show ¬ j=k by omega)]
    rw [e1];simp [kz]
  have h4:aa W (jE c (k+1) (kz nl k b) bs::A::B::C::dM nb (k+1) (kz nl k b) v::os) w:=by
    unfold jE;refine aa.xY ?_
    rw [e2,List.append_assoc];exact h3
  exact aa.permA (xs:=[jE c (k+1) (kz nl k b) bs,A,B,C,dM nb (k+1) (kz nl k b) v]) [1,2,3,4,0] h4 (by decide) (show ∀ i,i∈[1,2,3,4,0]→i<5 by decide)
set_option maxRecDepth 100000 in
theorem MO (hc:c.Ok) (m:Nat) (hm:m≤c.n) (CZ qm:Nat) (A:Nat→Option Addr) (bs:Nat→List Nat) (q:Nat→Nat) (hA:∀ j,m≤j→A j=none∧bs j = []∧q j=0) (hl:∀ j,(bs j).length≤4096) (hb:∀ j i:Nat,(bs j).getD i 0<256) (xs:List (Option Addr × List Nat)) (hx:∀ j,(A j,bs j)∈xs) (cd:Oj)
    (hcd:∀ w F,cd.At w F→∀ j,j<m→w.cell? ⟨CZ,j,none⟩=some (.slice (A j) (bs j).length (q j))) (h:aa W (cd::aV xs::os) w):
    Calls Tryz.prog 8 #[.agg c.cs,.slice (some ⟨CZ,0,none⟩) m qm] w fun e w'=>∃ cb aH nv nb nl,e=.returned (.tuple #[pv cb,.int .i64 0]) ∧
      aa W (eu cb nv c.sh aH 0 0 0 (.slice none 0 0) (.slice none 0 0)::dM nb c.n nl nv::jE c c.n nl bs::ek aH::cd::aV xs::os) w':=by
  obtain ⟨i0,hi0,hz0,hz1,hz2⟩:=info_parts V5
  have gG:=Yh (fun w=>Mg c hc w)
  have hmi:decide ((c.n:Int)<(m:Int))=false:=by rw [decide_eq_false_iff_not];omega
  have hmn:decide (c.n<m)=false:=by rw [decide_eq_false_iff_not];omega
  have abF:¬ c.n<m:=by omega
  have HC:=Yh hc
  have HM:=Yh hm
  have HA:=Yh hA
  have HL:=Yh hl
  have HB:=Yh hb
  have HX:=Yh hx
  have V6:=Yh hcd
  have H0:Hid (aa W (aV xs::ae w.heap.size 26 c.cs::cd::os) (w.alloc (.cells c.cs 26))):=Yh (aa.permA (xs:=[ae w.heap.size 26 c.cs,cd,aV xs]) [2,0,1] (h.push c.cs 26 rfl) (by decide) (show ∀ i,i∈[2,0,1]→i<3 by decide))
  have bc:=H0.out.blk 1 rfl
  have x0:(w.alloc (.cells c.cs 26)).cell? ⟨w.heap.size,0,none⟩=some (.int .i64 (c.n:Int)):=bc.cell 0
  have hrg:=bc.range
  have hlt:=bc.lt
  clear h hc hm hA hl hb hx hcd bc;go_enter Tryz.func8,Tryz.ntmps8
  go_wp2_with (first|((with_reducible refine wl_store_new 26 (.tmp 2) (.tmp 0) rfl ?_ w (World.heap w).size 26 0 c.cs ?_ ?_ ?_ ?_ ?_ ?_ ?_ ?_); exact rfl; exact rfl; exact rfl; exact rfl; exact rfl; exact rfl; exact rO c; exact Gp c)|((with_reducible refine wl_load 26 (.tmp 2) rfl ?_ w.heap.size 0 c.cs ?_ hrg ?_ ?_); exact rfl; exact rfl; exact rO c)|fail)
  refine (gG.out _).mono ?_
  rintro e w1 ⟨rfl,hb1⟩;have H1:=Yh (H0.out.step hb1)
  generalize w.heap.size=cf at *;clear hb1 H0 hrg hlt gG x0;have bc:=H1.out.drew.blk 1 rfl
  have s0:∀ W',Ext w1.drew W'→W'.cell? ⟨cf,2,none⟩=some (.int .i64 (c.sh:Int)):=fun W' h=>(h.cell (p:=⟨cf,2,none⟩) bc.lt).trans (bc.cell 2)
  clear bc
  go_wp2_with fail
  refine wp_region_plan [(1, false), (2, false), (0, true), (3, false), (4, true), (5, false)] (by kernel_rfl) (by kernel_rfl) (fun _ d _ _ _ h => by cases d <;> exact h) ?_
  iterate 2 (refine plan_take (v:=?_) rfl (by kernel_rfl) ?_ ?_;rotate_left;(focus (intro w' hw';try go_simp;try with_reducible rfl));simp only [Act.put,pa1,pa2,pa3])
  clear s0;have H2:=Yh H1.out.drew
  clear H1;generalize w1.drew=w2 at *
  refine plan_call rfl (by kernel_rfl) (by go_simp; exact ⟨rfl, rfl⟩) ?_
  refine (V4 _).mono ?_
  rintro e w3 ⟨rfl,rfl⟩;have H3:=Yh (H2.out.push #[.slice none 0 0,.int .i64 0] 83 rfl)
  refine ⟨_, rfl, (cZ _ _), ?_⟩
  simp only [Act.put,pa1,pa2,pa3]
  generalize w2.alloc (.cells #[.slice none 0 0,.int .i64 0] 83)=w3 at *;generalize w2.heap.size=aH at *;clear H2
  iterate 1 (refine plan_take (v:=?_) rfl (by kernel_rfl) ?_ ?_;rotate_left;(focus (intro w' hw';try go_simp;try with_reducible rfl));simp only [Act.put,pa1,pa2,pa3])
  refine plan_turn rfl (by kernel_rfl) (fun K hK=>?_)
  go_simp
  refine hK _ _ ⟨cZ _ _,?_⟩
  clear hK K
  iterate 1 (refine plan_take (v:=?_) rfl (by kernel_rfl) ?_ ?_;rotate_left;(focus (intro w' hw';try go_simp;try with_reducible rfl));simp only [Act.put,pa1,pa2,pa3])
  refine aG ?_
  have H4:Hid (aa W (ae w3.heap.size 75 #[.slice none 0 0,.int .i64 (c.sh:Int),.pointer (some ⟨aH,0,none⟩),.int .i64 0,.int .i64 0,.int .i64 0,.slice none 0 0,.slice none 0 0]::ae aH 83 #[.slice none 0 0,.int .i64 0]::aV xs::ae cf 26 c.cs::cd::os) (w3.alloc (.cells #[.slice none 0 0,.int .i64 (c.sh:Int),.pointer (some ⟨aH,0,none⟩),.int .i64 0,.int .i64 0,.int .i64 0,.slice none 0 0,.slice none 0 0] 75))):=Yh (H3.out.push _ 75 rfl)
  clear H3;generalize w3.alloc (.cells #[.slice none 0 0,.int .i64 (c.sh:Int),.pointer (some ⟨aH,0,none⟩),.int .i64 0,.int .i64 0,.int .i64 0,.slice none 0 0,.slice none 0 0] 75)=w4 at *;generalize w3.heap.size=cb at *;have H5:Hid (aa W (aV xs::ae cf 26 c.cs::eu cb (.slice none 0 0) c.sh aH 0 0 0 (.slice none 0 0) (.slice none 0 0)::dM W.heap.size 0 (fun _=>0) (.slice none 0 0)::jE c 0 (fun _=>0) bs::ek aH::cd::os) w4):=Yh
    (aa.permA (xs:=[qx,dM W.heap.size 0 (fun _=>0) (.slice none 0 0),eu cb (.slice none 0 0) c.sh aH 0 0 0 (.slice none 0 0) (.slice none 0 0),ek aH,aV xs,ae cf 26 c.cs,cd]) [4,5,2,1,0,3,6] ((H4.out.row0 W.heap.size 56 1).nR) (by decide) (show ∀ i,i∈[4,5,2,1,0,3,6]→i<7 by decide))
  clear H4;have bc:=H5.out.blk 1 rfl
  have y0:w4.cell? ⟨cf,0,none⟩=some (.int .i64 (c.n:Int)):=bc.cell 0
  have hlc:=bc.lt
  clear bc
  go_wp2_with fail;clear y0 hlc
  go_loopw [28,29,30,31,32,33,34,35,36,37,38,39,40,41,42,43,44,45,46,47,48,49,50,51,52,53,54,55,56,57,58,59,7,8,9,10] (fun i _ _ _ _ _ _ _ _ _ _ _ _ _ _ _ _ _ _ _ _ _ _ _ _ _ _ _ _ _ _ _ _ _ _ _ wr=>∃ (k:Nat) (nl:Nat→Nat) (nv:Value),k≤c.n∧i=.int .i64 (k:Int)∧aa W (aV xs::ae cf 26 c.cs::eu cb nv c.sh aH 0 0 0 (.slice none 0 0) (.slice none 0 0)::dM W.heap.size k nl nv::jE c k nl bs::ek aH::cd::os) wr) (fun i _ _ _ _ _ _ _ _ _ _ _ _ _ _ _ _ _ _ _ _ _ _ _ _ _ _ _ _ _ _ _ _ _ _ _ _=>c.n-(intOf i).toNat)
  case atStart=>exact ⟨0,fun _=>0,.slice none 0 0,Nat.zero_le _,rfl,H5.out⟩
  clear H5
  case round =>
    obtain ⟨k,nl,nv,hk,rfl,hO⟩:=hrel
    obtain ⟨A1,cp,rfl⟩:=lK (hO.owns 3 rfl)
    have HO:=Yh hO
    by_cases hkl:k<c.n
    · have HK:=Yh hkl
      have hki:(k:Int)<(c.n:Int):=by omega
      have hk0:(0:Int)≤(k:Int):=by omega
      have hn16:=HC.out.n.2
      have e9:wrap64 ((k:Int)+1)=((k+1:Nat):Int):=by
        rw [IntWalk.wrap64_in _ (by omega)]
        omega
      have E9:=Yh e9
      have HN:=Yh (VG HC.out k hkl (A k) (bs k) (q k) (HL.out k) (HB.out k) xs (HX.out k) hO)
      have bc:=hO.blk 1 rfl
      have hrg:=bc.range
      have hlc:=bc.lt
      have HJ:Hid (∀ w5,Calls Tryz.prog 24 #[.int .i64 (k:Int),.agg c.cs,.slice (A k) (bs k).length (q k)] w5 (fun e w'=>True)→True):=Yh (fun _ _=>trivial)
      clear e9 bc HJ;by_cases qI:k<m
      · obtain ⟨F,hF⟩:=hO.get 6 cd rfl
        have hcell:wr.cell? ⟨CZ,((k:Int)).toNat,none⟩=some (.slice (A k) (bs k).length (q k)):=V6.out _ _ hF k qI
        have kR:=cB hcell
        have abG:CZ<wr.heap.size:=kR
        have V7:(k:Int)<(m:Int):=by omega
        have d1:decide ((k:Int)<(m:Int))=true:=by simp [qI]
        clear hF hO hkl qI kR;generalize eB:(k:Int)=ki at *;have bZ:=Yh eB
        clear eB
        go_wp2_with (first|((with_reducible refine wl_load 26 (.tmp 2) rfl ?_ cf 0 c.cs ?_ hrg ?_ ?_); exact rfl; exact rfl; exact rO c)|fail)
        refine HN.out.mono ?_
        rintro e w5 ⟨x,s,f,M,T,rfl,⟨g1,g2,g3,g4,g5,g6,g7⟩,h5⟩;have H5:Hid (aa W (dV c k x.ng (bs k)::aV xs::ae cf 26 c.cs::eu cb (.slice A1 k cp) c.sh aH 0 0 0 (.slice none 0 0) (.slice none 0 0)::dM W.heap.size k nl (.slice A1 k cp)::jE c k nl bs::ek aH::cd::os) w5):=Yh (MK ⟨x,s,f,M,T,g1,rfl,g2,g3,g4,g5,g6,g7⟩ h5)
        clear h5 g1 g2 g3 g4 g5 g6 g7 HN hrg hlc;generalize x.ng=ng at *;have A9:=Yh (H5.out.step ((Below.refl _ _).alloc (Nat.le_refl _) (.cells #[.pointer (some ⟨ng,0,none⟩)] 56)))
        have qJ:=H5.out.blk 3 rfl
        have z0:w5.cell? ⟨cb,0,none⟩=some (.slice A1 k cp):=qJ.cell 0
        have hlb:=qJ.lt
        clear qJ;unfold pv
        go_wp2_with (at_builtin;refine oL _ rfl (.tmp 53) (.tmp 55) _ rfl W.heap.size 56 i0 _ 1 8 Tryz.underlying72 hi0 hz0 hz1 hz2 rfl (by decide) _ k ((List.range k).map (fun i=>pv (nl i))) rfl (A9.out.owns 4 rfl) (w5.heap.size+1) (some ⟨w5.heap.size,0,none⟩) 1 1 [pv ng] rfl (sO _ _ _) (MM _) (by unfold maxLen;have:=HK.out;omega) (by omega) (Nat.le_trans H5.out.bel.size (by simp)) ?_;intro v4 w6 hown hgrow hat;have HF:Hid (aa W (dV c k ng (bs k)::aV xs::ae cf 26 c.cs::eu cb (.slice A1 k cp) c.sh aH 0 0 0 (.slice none 0 0) (.slice none 0 0)::aS W.heap.size 56 1 (k+1) v4 ((List.range k).map (fun i=>pv (nl i))++[pv ng])::jE c k nl bs::ek aH::cd::os) w6):=Yh (A9.out.grow 4 rfl hown hgrow hat);clear hown hgrow hat;obtain ⟨g4,q4,rfl,_,_⟩:=uR (HF.out.owns 4 rfl) (Nat.succ_ne_zero k);have b6:=HF.out.blk 3 rfl;have z6:w6.cell? ⟨cb,0,none⟩=some (.slice A1 k cp):=b6.cell 0;have GH:=b6.lt;have MP:=(fun i=>Blk.frozen b6 i);clear b6;have gW:=Yh (HF.out.ay 3 rfl 0 (.slice (some ⟨g4,0,none⟩) (k+1) q4)))
        go_roundw
        case rel=>exact ⟨k+1,kz nl k ng,.slice (some ⟨g4,0,none⟩) (k+1) q4,HK.out,by rw [← bZ.out];rfl,MN gW.out⟩
        case measure =>
          show c.n-(ki+1).toNat<c.n-ki.toNat
          have h1:=HK.out
          have h2:=bZ.out
          omega
      · obtain ⟨a1,a2,a3⟩:=HA.out k (by omega)
        have V7:¬ (k:Int)<(m:Int):=by omega
        have d1:decide ((k:Int)<(m:Int))=false:=by rw [decide_eq_false_iff_not];omega
        have d2:decide (k<m)=false:=by rw [decide_eq_false_iff_not];omega
        have MQ:Value.slice (A k) (bs k).length (q k)=Value.slice none 0 0:=by rw [a1,a2,a3];rfl
        rw [MQ] at HN;clear a1 a2 a3 MQ;clear hO hkl qI;generalize eB:(k:Int)=ki at *;have bZ:=Yh eB
        clear eB
        go_wp2_with (first|((with_reducible refine wl_load 26 (.tmp 2) rfl ?_ cf 0 c.cs ?_ hrg ?_ ?_); exact rfl; exact rfl; exact rO c)|fail)
        refine HN.out.mono ?_
        rintro e w5 ⟨x,s,f,M,T,rfl,⟨g1,g2,g3,g4,g5,g6,g7⟩,h5⟩;have H5:Hid (aa W (dV c k x.ng (bs k)::aV xs::ae cf 26 c.cs::eu cb (.slice A1 k cp) c.sh aH 0 0 0 (.slice none 0 0) (.slice none 0 0)::dM W.heap.size k nl (.slice A1 k cp)::jE c k nl bs::ek aH::cd::os) w5):=Yh (MK ⟨x,s,f,M,T,g1,rfl,g2,g3,g4,g5,g6,g7⟩ h5)
        clear h5 g1 g2 g3 g4 g5 g6 g7 HN hrg hlc;generalize x.ng=ng at *;have A9:=Yh (H5.out.step ((Below.refl _ _).alloc (Nat.le_refl _) (.cells #[.pointer (some ⟨ng,0,none⟩)] 56)))
        have qJ:=H5.out.blk 3 rfl
        have z0:w5.cell? ⟨cb,0,none⟩=some (.slice A1 k cp):=qJ.cell 0
        have hlb:=qJ.lt
        clear qJ;unfold pv
        go_wp2_with (at_builtin;refine oL _ rfl (.tmp 53) (.tmp 55) _ rfl W.heap.size 56 i0 _ 1 8 Tryz.underlying72 hi0 hz0 hz1 hz2 rfl (by decide) _ k ((List.range k).map (fun i=>pv (nl i))) rfl (A9.out.owns 4 rfl) (w5.heap.size+1) (some ⟨w5.heap.size,0,none⟩) 1 1 [pv ng] rfl (sO _ _ _) (MM _) (by unfold maxLen;have:=HK.out;omega) (by omega) (Nat.le_trans H5.out.bel.size (by simp)) ?_;intro v4 w6 hown hgrow hat;have HF:Hid (aa W (dV c k ng (bs k)::aV xs::ae cf 26 c.cs::eu cb (.slice A1 k cp) c.sh aH 0 0 0 (.slice none 0 0) (.slice none 0 0)::aS W.heap.size 56 1 (k+1) v4 ((List.range k).map (fun i=>pv (nl i))++[pv ng])::jE c k nl bs::ek aH::cd::os) w6):=Yh (A9.out.grow 4 rfl hown hgrow hat);clear hown hgrow hat;obtain ⟨g4,q4,rfl,_,_⟩:=uR (HF.out.owns 4 rfl) (Nat.succ_ne_zero k);have b6:=HF.out.blk 3 rfl;have z6:w6.cell? ⟨cb,0,none⟩=some (.slice A1 k cp):=b6.cell 0;have GH:=b6.lt;have MP:=(fun i=>Blk.frozen b6 i);clear b6;have gW:=Yh (HF.out.ay 3 rfl 0 (.slice (some ⟨g4,0,none⟩) (k+1) q4)))
        go_roundw
        case rel=>exact ⟨k+1,kz nl k ng,.slice (some ⟨g4,0,none⟩) (k+1) q4,HK.out,by rw [← bZ.out];rfl,MN gW.out⟩
        case measure =>
          show c.n-(ki+1).toNat<c.n-ki.toNat
          have h1:=HK.out
          have h2:=bZ.out
          omega
    · obtain rfl:k=c.n:=by omega
      have VQ:¬ (c.n<c.n):=Nat.lt_irrefl _
      clear hO
      go_wp2_with fail
      go_ret2
      refine ⟨cb,aH,.slice A1 c.n cp,W.heap.size,nl,rfl,?_⟩
      exact aa.permA (xs:=[aV xs,ae cf 26 c.cs,eu cb (.slice A1 c.n cp) c.sh aH 0 0 0 (.slice none 0 0) (.slice none 0 0),dM W.heap.size c.n nl (.slice A1 c.n cp),jE c c.n nl bs,ek aH,cd]) [2,3,4,5,6,0] HO.out (by decide) (show ∀ i,i∈[2,3,4,5,6,0]→i<7 by decide)
end
end Go.Proofs.YtnebdlchogmneaaGreatDoor
