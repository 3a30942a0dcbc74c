/- Texts of the proof: CoF, CoG, CoH, CoI, CoJ, CoK. -/
import Derived.Test.YtnebdlchogmneaaGreatDoorPk1
import Derived.Test.YtnebdlchogmneaaGreatDoorPk17
import Derived.Test.YtnebdlchogmneaaGreatDoorPk14
set_option maxHeartbeats 8000000
set_option linter.unusedVariables false
set_option linter.unusedSimpArgs false
namespace Go.Proofs.YtnebdlchogmneaaGreatDoor
open Go.RowKit Go.Maps
def ed (ps:List Addr) (w w':World):Prop:=∀ p,p∈ps→w'.cell? p=w.cell? p
theorem AJ (ps:List Addr):Later (ed ps):=⟨fun _ _ _=>rfl,fun h k p hp=>(k p hp).trans (h p hp)⟩
theorem ed.ay {ps:List Addr} (w:World) (q:Addr) (v:Value) (h:∀ p,p∈ps→p≠q):ed ps w (w.setCell q v):=fun p hp=>World.cell?_setCell_other _ _ _ _ (fun e=>h p hp e.symm)
theorem ed.blk {w w':World} {b:Nat} {t:TypeId} {cs:Array Value} (h:Blk w b t cs) (h':Blk w' b t cs) (p:Addr) (hp:∃ i,p=⟨b,i,none⟩):w'.cell? p=w.cell? p:=by
  obtain ⟨i,rfl⟩:=hp
  rw [h.cell,h'.cell]
theorem SameL.far {l:List Nat} (w:World) (q:Addr) (v:Value) (h:∀ b,b∈l→b≠q.block):SameL l w (w.setCell q v):=fun b hb=>Below.heap_setCell w q v b (h b hb)
def bJ.arr (d:bJ):Array Value:=#[.bool d.done,.int .i64 d.i.op,.int .i64 d.i.rd,.int .i64 d.i.rs,.int .i64 d.i.rt,.int .i64 d.i.ah,.int .u64 (d.pc:Int),.int .i64 d.cause,.int .i64 d.access,.int .u64 (d.addr:Int),.int .i64 d.size,.int .u64 (d.old:Int),.int .u64 (d.new:Int)]
section
variable {W w:World} {os:List Oj} {L:bL} {s:aC} {g db:Nat} {c:aD} {d:bJ}
def bK (L:bL) (s:aC) (g:Nat) (c:aD) (db:Nat) (d:bJ) (os:List Oj):List Oj:=ax L s (aW g c::ae db 44 d.arr::os)
def fK (L:bL) (s:aC) (va:Nat) (size a pick:Int):Nat × Int × List (List En):=bB L.n s.S s.T L.un va size a pick
set_option maxRecDepth 100000 in
theorem Ur (hc:c.Ok) (o rd ah:Int) (rs rt:Nat) (hs:rs<16) (ht:rt<16) (hk:kd o=7) (pick:Int) (hpk:-9223372036854775808≤pick∧pick<9223372036854775808) (hun:L.un.Ok) (hrd:∀ x,fZ L.n s.S x (dJ o)<18446744073709551616)
    (hd:d.i=⟨o,rd,rs,rt,ah⟩) (h:aa W (bK L s g c db d os) w):
    Calls Tryz.prog 173 #[.pointer (some ⟨g,0,none⟩),.pointer (some ⟨L.ub,0,none⟩),.pointer (some ⟨db,0,none⟩),.int .i64 pick] w fun e w'=>∃ va:Nat,va=wd (c.r.getD rs 0+ah) ∧
      ∃ p,p=fK L s va (dJ o) 1 pick∧e=.returned (.int .i64 p.2.1) ∧
      (p.2.1 = -1→aa W (bK L {s with T:=p.2.2} g (c.cO rd (wK o (fZ L.n s.S p (dJ o)))) db {d with access:=1,addr:=va,size:=dJ o,old:=fZ L.n s.S p (dJ o),new:=0} os) w') ∧
      (p.2.1 ≠ -1→aa W (bK L {s with T:=p.2.2} g c db {d with access:=1,addr:=va,size:=dJ o,old:=0,new:=0} os) w'):=by
  have e1:IntKind.u64.wrap ((c.r.getD rs 0:Nat)+IntKind.u64.wrap ah)=(wd (c.r.getD rs 0+ah):Int):=by
    rw [IntKind.wrap_u64,IntKind.wrap_u64];unfold wd;omega
  refine Calls.mono ?_ (fun e w' hh=>⟨_,rfl,_,rfl,hh⟩)
  obtain ⟨dn,di,iH,iI,nX,nY,nZ,jB,ku⟩:=d
  obtain rfl:di=_:=hd
  have hv:=ny ((c.r.getD rs 0:Nat)+ah)
  have uz:Hid (c.r.getD rs 0<18446744073709551616):=Yh (hc.lt rs)
  have HU:=Yh (fun W' w' os' (h':aa W' (ax L s os') w')=>Us L.ub L.gm L.b L.n L.k L.m L.un s.S s.T (ym L s os') (wd ((c.r.getD rs 0:Nat)+ah)) (dJ o) pick W' w' hv hpk hun h'.yn)
  have uy:=Yh (fun W'=>Fu o W')
  have Gc:=Yh (fun W'=>Um o (fZ L.n s.S (bB L.n s.S s.T L.un (wd ((c.r.getD rs 0:Nat)+ah)) (dJ o) 1 pick) (dJ o)) W' (hrd _))
  unfold fK;generalize wK o (fZ L.n s.S (bB L.n s.S s.T L.un (wd ((c.r.getD rs 0:Nat)+ah)) (dJ o) 1 pick) (dJ o))=tv at *;generalize fZ L.n s.S (bB L.n s.S s.T L.un (wd ((c.r.getD rs 0:Nat)+ah)) (dJ o) 1 pick) (dJ o)=rv at *;generalize bB L.n s.S s.T L.un (wd ((c.r.getD rs 0:Nat)+ah)) (dJ o) 1 pick=p at *;generalize dJ o=sz at *;generalize wd ((c.r.getD rs 0:Nat)+ah)=va at *;have hco:=h.blk 10 rfl
  have bS:=h.blk 11 rfl
  have kR:=hco.lt
  have hld:=bS.lt
  have c1:w.cell? ⟨db,1,none⟩=some (.int .i64 o):=bS.cell 1
  have c2:w.cell? ⟨db,2,none⟩=some (.int .i64 rd):=bS.cell 2
  have c3:w.cell? ⟨db,3,none⟩=some (.int .i64 (rs:Int)):=bS.cell 3
  have c4:w.cell? ⟨db,4,none⟩=some (.int .i64 (rt:Int)):=bS.cell 4
  have c5:w.cell? ⟨db,5,none⟩=some (.int .i64 ah):=bS.cell 5
  have H0:=Yh h
  have HC:=Yh hc
  clear bS h hc hpk hun;go_enter Tryz.func173,Tryz.ntmps173
  go_wp2_with fail;have H1:=Yh (H0.out.push #[Value.int .i64 o,.int .i64 rd,.int .i64 (rs:Int),.int .i64 (rt:Int),.int .i64 ah] 39 (b:=w.heap.size) rfl)
  generalize hw1:w.alloc (.cells #[Value.int .i64 o,.int .i64 rd,.int .i64 (rs:Int),.int .i64 (rt:Int),.int .i64 ah] 39)=w1 at *;have hib:w.heap.size<w1.heap.size:=(H1.out.blk 0 rfl).lt
  generalize w.heap.size=ib at *;clear c1 c2 c3 c4 c5 hco hw1 H0;have bY:=H1.out.drew.blk 11 rfl
  have bN:=H1.out.drew.blk 0 rfl
  have s1:∀ W',Ext w1.drew W'→W'.cell? ⟨g,rs,none⟩=some (.int .u64 (c.r.getD rs 0:Nat)):=fun W' h=>(h.cell (p:=⟨g,rs,none⟩) bY.lt).trans ((bY.cell rs).trans (aD.sJ HC.out hs))
  have s2:∀ W',Ext w1.drew W'→W'.cell? ⟨g,rt,none⟩=some (.int .u64 (c.r.getD rt 0:Nat)):=fun W' h=>(h.cell (p:=⟨g,rt,none⟩) bY.lt).trans ((bY.cell rt).trans (aD.sJ HC.out ht))
  have s3:∀ W',Ext w1.drew W'→W'.cell? ⟨ib,2,none⟩=some (.int .i64 (rs:Int)):=fun W' h=>(h.cell (p:=⟨ib,2,none⟩) bN.lt).trans (bN.cell 2)
  have s4:∀ W',Ext w1.drew W'→W'.cell? ⟨ib,3,none⟩=some (.int .i64 (rt:Int)):=fun W' h=>(h.cell (p:=⟨ib,3,none⟩) bN.lt).trans (bN.cell 3)
  have k1:(rs:Int)<16:=by omega
  have k2:(rt:Int)<16:=by omega
  clear bY bN;generalize c.r.getD rs 0=av at *;generalize c.r.getD rt 0=bv at *
  refine wp_region_plan [(0, false), (1, false), (2, false), (3, false), (4, false), (5, false), (6, false), (7, false), (8, false), (9, false), (10, false), (11, false), (12, false), (13, false), (14, true), (15, false), (16, true)] (by kernel_rfl) (by kernel_rfl) (fun _ d _ _ _ h => by cases d <;> exact h) ?_
  iterate 14 (refine plan_take (v:=?_) rfl (by kernel_rfl) ?_ ?_;rotate_left;(focus (intro w' hw';try go_simp;try with_reducible rfl));simp only [Act.put,pa1,pa2,pa3])
  clear s1 s2 s3 s4;have H2:=Yh H1.out.drew
  generalize w1.drew=w2 at *;refine plan_turn rfl (by kernel_rfl) (fun K hK=>?_)
  go_simp
  refine hK _ _ ⟨cZ _ _,?_⟩
  clear hK K
  iterate 1 (refine plan_take (v:=?_) rfl (by kernel_rfl) ?_ ?_;rotate_left;(focus (intro w' hw';try go_simp;try with_reducible rfl));simp only [Act.put,pa1,pa2,pa3])
  refine nL rfl (by kernel_rfl) (by kernel_rfl) (fun K hK=>?_)
  go_simp
  refine hK _ _ ?_
  clear hK K;refine aG ?_
  have H3:=Yh (aa.permA (xs:=[ae w2.heap.size 40 #[.int .u64 (bv:Int)],ae ib 39 #[Value.int .i64 o,.int .i64 rd,.int .i64 (rs:Int),.int .i64 (rt:Int),.int .i64 ah]]++bK L s g c db ⟨dn,⟨o,rd,rs,rt,ah⟩,iH,iI,nX,nY,nZ,jB,ku⟩ []) [2,3,4,5,6,7,8,9,10,11,12,13,0,1] (H2.out.push #[.int .u64 (bv:Int)] 40 (b:=w2.heap.size) rfl) (by decide) (show ∀ i,i∈[2,3,4,5,6,7,8,9,10,11,12,13,0,1]→i<14 by decide))
  change Hid (aa W (bK L s g c db ⟨dn,⟨o,rd,rs,rt,ah⟩,iH,iI,nX,nY,nZ,jB,ku⟩ (ae w2.heap.size 40 #[.int .u64 (bv:Int)]::ae ib 39 #[Value.int .i64 o,.int .i64 rd,.int .i64 (rs:Int),.int .i64 (rt:Int),.int .i64 ah]::os)) _) at H3
  generalize w2.alloc (.cells #[.int .u64 (bv:Int)] 40)=w3 at *;generalize w2.heap.size=bb at *;clear H1 H2 hib
  go_wp2_with fail;have bN:=H3.out.drew.blk 13 rfl
  have aM:=H3.out.drew.blk 11 rfl
  have hne:ib≠db:=jQ bN aM (by decide)
  have s5:∀ W',SameL [ib] w3.drew W'→W'.cell? ⟨ib,4,none⟩=some (.int .i64 ah):=fun W' h=>h.cell (by simp) (bN.cell 4)
  have s6:∀ W',SameL [ib] w3.drew W'→W'.cell? ⟨ib,0,none⟩=some (.int .i64 o):=fun W' h=>h.cell (by simp) (bN.cell 0)
  have d8:w3.drew.cell? ⟨db,8,none⟩=some (.int .i64 nX):=aM.cell 8
  have d9:w3.drew.cell? ⟨db,9,none⟩=some (.int .u64 (nY:Int)):=aM.cell 9
  have d10:w3.drew.cell? ⟨db,10,none⟩=some (.int .i64 nZ):=aM.cell 10
  have hfr:=fun i=>Blk.frozen aM i
  have hdl:=aM.lt
  clear bN aM;refine wp_region_plan_by (SameL [ib]) (later_same _) [(0,false),(1,false),(2,false),(3,false),(4,false),(5,false),(6,false),(7,false),(8,false),(9,false),(10,false),(11,false),(12,false),(13,true),(14,false),(15,false),(16,true),(17,false),(18,false),(19,true)] (by kernel_rfl) (by kernel_rfl) (fun _ d _ _ _ h=>by cases d <;> exact h) ?_
  iterate 10 (refine plan_take (v:=?_) rfl (by kernel_rfl) ?_ ?_;rotate_left;(focus (intro w' hw';try go_simp;try with_reducible rfl));simp only [Act.put,pa1,pa2,pa3])
  refine plan_quiet rfl (by kernel_rfl) (fun w' => by go_simp; all_goals (first | exact ⟨rfl, rfl⟩ | rfl)) (fun w' hw' => uy.out w') ?_
  simp only [Act.put,pa1,pa2,pa3]
  iterate 2 (refine plan_take (v:=?_) rfl (by kernel_rfl) ?_ ?_;rotate_left;(focus (intro w' hw';try go_simp;try with_reducible rfl));simp only [Act.put,pa1,pa2,pa3])
  clear s5 s6 e1;have H4:=Yh H3.out.drew
  generalize w3.drew=w4 at *;refine plan_turn rfl (by kernel_rfl) (fun K hK=>?_)
  go_simp
  refine hK _ _ ⟨SameL.far _ _ _ (fun b hb=>by rw [List.mem_singleton.1 hb];exact hne),?_⟩
  clear hK K
  iterate 2 (refine plan_take (v:=?_) rfl (by kernel_rfl) ?_ ?_;rotate_left;(focus (intro w' hw';try go_simp;try with_reducible rfl));simp only [Act.put,pa1,pa2,pa3])
  refine plan_turn rfl (by kernel_rfl) (fun K hK=>?_)
  go_simp
  refine hK _ _ ⟨SameL.far _ _ _ (fun b hb=>by rw [List.mem_singleton.1 hb];exact hne),?_⟩
  clear hK K
  iterate 2 (refine plan_take (v:=?_) rfl (by kernel_rfl) ?_ ?_;rotate_left;(focus (intro w' hw';try go_simp;try with_reducible rfl));simp only [Act.put,pa1,pa2,pa3])
  refine plan_turn rfl (by kernel_rfl) (fun K hK=>?_)
  go_simp
  refine hK _ _ ⟨SameL.far _ _ _ (fun b hb=>by rw [List.mem_singleton.1 hb];exact hne),?_⟩
  clear hK K;refine aG ?_
  have H5:Hid (aa W (bK L s g c db ⟨dn,⟨o,rd,rs,rt,ah⟩,iH,iI,2,va,sz,jB,ku⟩ (ae bb 40 #[.int .u64 (bv:Int)]::ae ib 39 #[Value.int .i64 o,.int .i64 rd,.int .i64 (rs:Int),.int .i64 (rt:Int),.int .i64 ah]::os)) _):=Yh (((H4.out.ay 11 rfl 9 (.int .u64 (va:Int))).ay 11 rfl 10 (.int .i64 sz)).ay 11 rfl 8 (.int .i64 2))
  generalize ((w4.setCell _ _).setCell _ _).setCell _ _=w5 at *;clear H3 H4 d8 d9 d10 hfr hdl;have x0:w5.cell? ⟨ib,0,none⟩=some (.int .i64 o):=(H5.out.blk 13 rfl).cell 0
  have hks:ks (kd o)=⟨#[76]⟩:=by rw [hk];rfl
  have kS:=Yh hks
  clear hks hk
  go_wp2_with fail;refine (mD o _).mono ?_
  rintro e w6 ⟨rfl,rfl⟩;rw [kS.out];have aM:=H5.out.blk 11 rfl
  have d8:w5.cell? ⟨db,8,none⟩=some (.int .i64 2):=aM.cell 8
  have hfr:=fun i=>Blk.frozen aM i
  have hdl:=aM.lt
  clear aM x0
  go_wp2_with fail;have H6:Hid (aa W (bK L s g c db ⟨dn,⟨o,rd,rs,rt,ah⟩,iH,iI,1,va,sz,jB,ku⟩ (ae bb 40 #[.int .u64 (bv:Int)]::ae ib 39 #[Value.int .i64 o,.int .i64 rd,.int .i64 (rs:Int),.int .i64 (rt:Int),.int .i64 ah]::os)) _):=Yh (H5.out.ay 11 rfl 8 (.int .i64 1))
  generalize World.setCell w5 _ _=w6 at *;have aM:=H6.out.drew.blk 11 rfl
  have s5:∀ W',ed [⟨db,9,none⟩,⟨db,10,none⟩] w6.drew W'→W'.cell? ⟨db,9,none⟩=some (.int .u64 (va:Int)):=fun W' h=>(h _ (by simp)).trans (aM.cell 9)
  have s6:∀ W',ed [⟨db,9,none⟩,⟨db,10,none⟩] w6.drew W'→W'.cell? ⟨db,10,none⟩=some (.int .i64 sz):=fun W' h=>(h _ (by simp)).trans (aM.cell 10)
  clear aM d8 hfr hdl H5;refine wp_region_plan_by (ed [⟨db,9,none⟩,⟨db,10,none⟩]) (AJ _) [(0,false),(1,false),(2,false),(3,false),(4,false),(5,false),(6,false),(7,false),(8,false),(9,false),(10,false),(11,true),(12,false),(13,false),(14,false),(15,false),(16,false),(17,true),(18,false)] (by kernel_rfl) (by kernel_rfl) (fun _ d _ _ _ h=>by cases d <;> exact h) ?_
  iterate 11 (refine plan_take (v:=?_) rfl (by kernel_rfl) ?_ ?_;rotate_left;(focus (intro w' hw';try go_simp;try with_reducible rfl));simp only [Act.put,pa1,pa2,pa3])
  clear s5 s6;have H7:=Yh H6.out.drew
  generalize w6.drew=w7 at *
  refine plan_call rfl (by kernel_rfl) (by go_simp; exact ⟨rfl, rfl⟩) ?_
  refine (HU.out _ _ _ H7.out).mono ?_
  rintro e w8 ⟨rfl,h8,_⟩;have H8:=Yh (aa.wu h8)
  have hsame:ed [⟨db,9,none⟩,⟨db,10,none⟩] w7 w8:=fun p hp=>by
    have b1:=H7.out.blk 11 rfl
    have b2:=(aa.wu h8).blk 11 rfl
    simp only [List.mem_cons,List.not_mem_nil,or_false] at hp
    rcases hp with rfl|rfl
    · exact ed.blk b1 b2 _ ⟨_,rfl⟩
    · exact ed.blk b1 b2 _ ⟨_,rfl⟩
  clear h8
  refine ⟨_, rfl, hsame, ?_⟩
  simp only [Act.put,pa1,pa2,pa3]
  clear hsame H7 HU;have H8:Hid (aa W (bK L {s with T:=p.2.2} g c db ⟨dn,⟨o,rd,rs,rt,ah⟩,iH,iI,1,va,sz,jB,ku⟩ (ae bb 40 #[.int .u64 (bv:Int)]::ae ib 39 #[Value.int .i64 o,.int .i64 rd,.int .i64 (rs:Int),.int .i64 (rt:Int),.int .i64 ah]::os)) w8):=H8
  have aM:=H8.out.blk 11 rfl
  have d11:w8.cell? ⟨db,11,none⟩=some (.int .u64 (jB:Int)):=aM.cell 11
  have d12:w8.cell? ⟨db,12,none⟩=some (.int .u64 (ku:Int)):=aM.cell 12
  have hfr:=fun i=>Blk.frozen aM i
  have hdl:=aM.lt
  clear aM
  iterate 5 (refine plan_take (v:=?_) rfl (by kernel_rfl) ?_ ?_;rotate_left;(focus (intro w' hw';try go_simp;try with_reducible rfl));simp only [Act.put,pa1,pa2,pa3])
  refine plan_turn rfl (by kernel_rfl) (fun K hK=>?_)
  go_simp
  refine hK _ _ ⟨ed.ay _ _ _ (fun q hq=>by simp only [List.mem_cons,List.not_mem_nil,or_false] at hq;rcases hq with rfl|rfl <;> simp),?_⟩
  clear hK K
  iterate 1 (refine plan_take (v:=?_) rfl (by kernel_rfl) ?_ ?_;rotate_left;(focus (intro w' hw';try go_simp;try with_reducible rfl));simp only [Act.put,pa1,pa2,pa3])
  refine aG ?_
  obtain ⟨p1,p2,p3⟩:=p
  simp only at *
  have H9:Hid (aa W (bK L {s with T:=p3} g c db ⟨dn,⟨o,rd,rs,rt,ah⟩,iH,iI,1,va,sz,rv,rv⟩ (ae bb 40 #[.int .u64 (bv:Int)]::ae ib 39 #[Value.int .i64 o,.int .i64 rd,.int .i64 (rs:Int),.int .i64 (rt:Int),.int .i64 ah]::os)) _):=Yh ((H8.out.ay 11 rfl 11 (.int .u64 (rv:Int))).ay 11 rfl 12 (.int .u64 (rv:Int)))
  clear H6;by_cases hp:p2 = -1
  · subst hp
    have x0:((w8.setCell ⟨db,11,none⟩ (.int .u64 (rv:Int))).setCell ⟨db,12,none⟩ (.int .u64 (rv:Int))).cell? ⟨ib,0,none⟩=some (.int .i64 o):=(H9.out.blk 13 rfl).cell 0
    go_wp2_with fail;refine (mD o _).mono ?_
    rintro e wy ⟨rfl,rfl⟩;rw [kS.out]
    go_wp2_with fail;generalize (w8.setCell ⟨db,11,none⟩ (.int .u64 (rv:Int))).setCell ⟨db,12,none⟩ (.int .u64 (rv:Int))=w9 at *;clear H8 d11 d12 hfr hdl x0;have bN:=H9.out.drew.blk 13 rfl
    have aM:=H9.out.drew.blk 11 rfl
    have s5:∀ W',SameL [ib,db] w9.drew W'→W'.cell? ⟨ib,1,none⟩=some (.int .i64 rd):=fun W' h=>h.cell (by simp) (bN.cell 1)
    have s6:∀ W',SameL [ib,db] w9.drew W'→W'.cell? ⟨ib,0,none⟩=some (.int .i64 o):=fun W' h=>h.cell (by simp) (bN.cell 0)
    have s7:∀ W',SameL [ib,db] w9.drew W'→W'.cell? ⟨db,11,none⟩=some (.int .u64 (rv:Int)):=fun W' h=>h.cell (by simp) (aM.cell 11)
    clear bN aM;refine wp_region_plan_by (SameL [ib,db]) (later_same _) [(0,false),(1,false),(2,false),(3,false),(4,false),(5,false),(6,false),(7,false),(8,false),(9,false),(10,true)] (by kernel_rfl) (by kernel_rfl) (fun _ d _ _ _ h=>by cases d <;> exact h) ?_
    iterate 9 (refine plan_take (v:=?_) rfl (by kernel_rfl) ?_ ?_;rotate_left;(focus (intro w' hw';try go_simp;try with_reducible rfl));simp only [Act.put,pa1,pa2,pa3])
    refine plan_quiet rfl (by kernel_rfl) (fun w' => by go_simp; all_goals (first | exact ⟨rfl, rfl⟩ | rfl)) (fun w' hw' => Gc.out w') ?_
    simp only [Act.put,pa1,pa2,pa3]
    clear s5 s6 s7;have lJ:=Yh H9.out.drew
    generalize w9.drew=wy at *
    refine plan_call rfl (by kernel_rfl) (by go_simp; exact ⟨rfl, rfl⟩) ?_
    refine (CP HC.out rd tv lJ.out 10 rfl).mono ?_
    rintro e sQ ⟨rfl,h11,_⟩;have AL:Hid (aa W (bK L {s with T:=p3} g (c.cO rd tv) db ⟨dn,⟨o,rd,rs,rt,ah⟩,iH,iI,1,va,sz,rv,rv⟩ (ae bb 40 #[.int .u64 (bv:Int)]::ae ib 39 #[Value.int .i64 o,.int .i64 rd,.int .i64 (rs:Int),.int .i64 (rt:Int),.int .i64 ah]::os)) _):=Yh h11
    have hsame:SameL [ib,db] wy sQ:=fun b hb=>by
      simp only [List.mem_cons,List.not_mem_nil,or_false] at hb
      rcases hb with rfl|rfl
      · exact lJ.out.same h11 13 13 rfl rfl
      · exact lJ.out.same h11 11 11 rfl rfl
    clear h11
    refine ⟨_, rfl, hsame, ?_⟩
    simp only [Act.put,pa1,pa2,pa3]
    refine aG ?_
    have aM:=AL.out.blk 11 rfl
    have d8:sQ.cell? ⟨db,8,none⟩=some (.int .i64 1):=aM.cell 8
    have d12:sQ.cell? ⟨db,12,none⟩=some (.int .u64 (rv:Int)):=aM.cell 12
    have hfr:=fun i=>Blk.frozen aM i
    have hdl:=aM.lt
    clear aM hsame H9 lJ
    go_wp2_with fail;go_ret
    refine ⟨rfl,?_⟩
    exact aa.permA (xs:=bK L {s with T:=p3} g (c.cO rd tv) db ⟨dn,⟨o,rd,rs,rt,ah⟩,iH,iI,1,va,sz,rv,0⟩ [ae bb 40 #[.int .u64 (bv:Int)],ae ib 39 #[Value.int .i64 o,.int .i64 rd,.int .i64 (rs:Int),.int .i64 (rt:Int),.int .i64 ah]]) [0,1,2,3,4,5,6,7,8,9,10,11] (AL.out.ay 11 rfl 12 (.int .u64 0)) (by decide) (show ∀ i,i∈[0,1,2,3,4,5,6,7,8,9,10,11]→i<14 by decide)
  · have n1:(p2 == -1)=false:=by simp [hp]
    have n2:(p2 != -1)=true:=by simp [hp]
    go_wp2_with fail;go_ret
    refine ⟨rfl,?_⟩
    exact aa.permA (xs:=bK L {s with T:=p3} g c db ⟨dn,⟨o,rd,rs,rt,ah⟩,iH,iI,1,va,sz,0,0⟩ [ae bb 40 #[.int .u64 (bv:Int)],ae ib 39 #[Value.int .i64 o,.int .i64 rd,.int .i64 (rs:Int),.int .i64 (rt:Int),.int .i64 ah]]) [0,1,2,3,4,5,6,7,8,9,10,11] ((H9.out.ay 11 rfl 11 (.int .u64 0)).ay 11 rfl 12 (.int .u64 0)) (by decide) (show ∀ i,i∈[0,1,2,3,4,5,6,7,8,9,10,11]→i<14 by decide)
end
section
variable {W w:World} {os:List Oj} {L:bL} {s:aC} {g db:Nat} {c:aD} {d:bJ}
set_option maxRecDepth 100000 in
theorem LV (hc:c.Ok) (o rd ah:Int) (rs rt:Nat) (hs:rs<16) (ht:rt<16) (hk:kd o=8) (pick:Int) (hpk:-9223372036854775808≤pick∧pick<9223372036854775808) (hun:L.un.Ok)
    (hd:d.i=⟨o,rd,rs,rt,ah⟩) (h:aa W (bK L s g c db d os) w):
    Calls Tryz.prog 173 #[.pointer (some ⟨g,0,none⟩),.pointer (some ⟨L.ub,0,none⟩),.pointer (some ⟨db,0,none⟩),.int .i64 pick] w fun e w'=>∃ va:Nat,va=wd (c.r.getD rs 0+ah) ∧
      ∃ p,p=fK L s va (dJ o) 2 pick∧e=.returned (.int .i64 p.2.1) ∧
      (p.2.1 = -1→aa W (bK L {s with T:=p.2.2,S:=qG L.n s.S p (dJ o) (c.r.getD rt 0) } g c db {d with access:=2,addr:=va,size:=dJ o,new:=cutV (c.r.getD rt 0) (dJ o) } os) w') ∧
      (p.2.1 ≠ -1→aa W (bK L {s with T:=p.2.2,S:=qG L.n s.S p (dJ o) (c.r.getD rt 0) } g c db {d with access:=2,addr:=va,size:=dJ o,old:=0,new:=0} os) w'):=by
  have e1:IntKind.u64.wrap ((c.r.getD rs 0:Nat)+IntKind.u64.wrap ah)=(wd (c.r.getD rs 0+ah):Int):=by
    rw [IntKind.wrap_u64,IntKind.wrap_u64];unfold wd;omega
  refine Calls.mono ?_ (fun e w' hh=>⟨_,rfl,_,rfl,hh⟩)
  obtain ⟨dn,di,iH,iI,nX,nY,nZ,jB,ku⟩:=d
  obtain rfl:di=_:=hd
  have hv:=ny ((c.r.getD rs 0:Nat)+ah)
  have uz:Hid (c.r.getD rs 0<18446744073709551616):=Yh (hc.lt rs)
  have HU:=Yh (fun W' w' os' (h':aa W' (ax L s os') w')=>Ut L.ub L.gm L.b L.n L.k L.m L.un s.S s.T (ym L s os') (wd ((c.r.getD rs 0:Nat)+ah)) (dJ o) pick W' w' (c.r.getD rt 0) hv (hc.lt rt) hpk hun h'.yn)
  have uy:=Yh (fun W'=>Fu o W')
  have Gc:=Yh (fun W'=>Uu (c.r.getD rt 0) (dJ o) W' (hc.lt rt))
  unfold fK;generalize cutV (c.r.getD rt 0) (dJ o)=tv at *;generalize qG L.n s.S (bB L.n s.S s.T L.un (wd ((c.r.getD rs 0:Nat)+ah)) (dJ o) 2 pick) (dJ o) (c.r.getD rt 0)=S' at *;generalize bB L.n s.S s.T L.un (wd ((c.r.getD rs 0:Nat)+ah)) (dJ o) 2 pick=p at *;generalize dJ o=sz at *;generalize wd ((c.r.getD rs 0:Nat)+ah)=va at *;have hco:=h.blk 10 rfl
  have bS:=h.blk 11 rfl
  have kR:=hco.lt
  have hld:=bS.lt
  have c1:w.cell? ⟨db,1,none⟩=some (.int .i64 o):=bS.cell 1
  have c2:w.cell? ⟨db,2,none⟩=some (.int .i64 rd):=bS.cell 2
  have c3:w.cell? ⟨db,3,none⟩=some (.int .i64 (rs:Int)):=bS.cell 3
  have c4:w.cell? ⟨db,4,none⟩=some (.int .i64 (rt:Int)):=bS.cell 4
  have c5:w.cell? ⟨db,5,none⟩=some (.int .i64 ah):=bS.cell 5
  have H0:=Yh h
  have HC:=Yh hc
  clear bS h hc hpk hun;go_enter Tryz.func173,Tryz.ntmps173
  go_wp2_with fail;have H1:=Yh (H0.out.push #[Value.int .i64 o,.int .i64 rd,.int .i64 (rs:Int),.int .i64 (rt:Int),.int .i64 ah] 39 (b:=w.heap.size) rfl)
  generalize hw1:w.alloc (.cells #[Value.int .i64 o,.int .i64 rd,.int .i64 (rs:Int),.int .i64 (rt:Int),.int .i64 ah] 39)=w1 at *;have hib:w.heap.size<w1.heap.size:=(H1.out.blk 0 rfl).lt
  generalize w.heap.size=ib at *;clear c1 c2 c3 c4 c5 hco hw1 H0;have bY:=H1.out.drew.blk 11 rfl
  have bN:=H1.out.drew.blk 0 rfl
  have s1:∀ W',Ext w1.drew W'→W'.cell? ⟨g,rs,none⟩=some (.int .u64 (c.r.getD rs 0:Nat)):=fun W' h=>(h.cell (p:=⟨g,rs,none⟩) bY.lt).trans ((bY.cell rs).trans (aD.sJ HC.out hs))
  have s2:∀ W',Ext w1.drew W'→W'.cell? ⟨g,rt,none⟩=some (.int .u64 (c.r.getD rt 0:Nat)):=fun W' h=>(h.cell (p:=⟨g,rt,none⟩) bY.lt).trans ((bY.cell rt).trans (aD.sJ HC.out ht))
  have s3:∀ W',Ext w1.drew W'→W'.cell? ⟨ib,2,none⟩=some (.int .i64 (rs:Int)):=fun W' h=>(h.cell (p:=⟨ib,2,none⟩) bN.lt).trans (bN.cell 2)
  have s4:∀ W',Ext w1.drew W'→W'.cell? ⟨ib,3,none⟩=some (.int .i64 (rt:Int)):=fun W' h=>(h.cell (p:=⟨ib,3,none⟩) bN.lt).trans (bN.cell 3)
  have k1:(rs:Int)<16:=by omega
  have k2:(rt:Int)<16:=by omega
  clear bY bN;generalize c.r.getD rs 0=av at *;generalize c.r.getD rt 0=bv at *
  refine wp_region_plan [(0, false), (1, false), (2, false), (3, false), (4, false), (5, false), (6, false), (7, false), (8, false), (9, false), (10, false), (11, false), (12, false), (13, false), (14, true), (15, false), (16, true)] (by kernel_rfl) (by kernel_rfl) (fun _ d _ _ _ h => by cases d <;> exact h) ?_
  iterate 14 (refine plan_take (v:=?_) rfl (by kernel_rfl) ?_ ?_;rotate_left;(focus (intro w' hw';try go_simp;try with_reducible rfl));simp only [Act.put,pa1,pa2,pa3])
  clear s1 s2 s3 s4;have H2:=Yh H1.out.drew
  generalize w1.drew=w2 at *;refine plan_turn rfl (by kernel_rfl) (fun K hK=>?_)
  go_simp
  refine hK _ _ ⟨cZ _ _,?_⟩
  clear hK K
  iterate 1 (refine plan_take (v:=?_) rfl (by kernel_rfl) ?_ ?_;rotate_left;(focus (intro w' hw';try go_simp;try with_reducible rfl));simp only [Act.put,pa1,pa2,pa3])
  refine nL rfl (by kernel_rfl) (by kernel_rfl) (fun K hK=>?_)
  go_simp
  refine hK _ _ ?_
  clear hK K;refine aG ?_
  have H3:=Yh (aa.permA (xs:=[ae w2.heap.size 40 #[.int .u64 (bv:Int)],ae ib 39 #[Value.int .i64 o,.int .i64 rd,.int .i64 (rs:Int),.int .i64 (rt:Int),.int .i64 ah]]++bK L s g c db ⟨dn,⟨o,rd,rs,rt,ah⟩,iH,iI,nX,nY,nZ,jB,ku⟩ []) [2,3,4,5,6,7,8,9,10,11,12,13,0,1] (H2.out.push #[.int .u64 (bv:Int)] 40 (b:=w2.heap.size) rfl) (by decide) (show ∀ i,i∈[2,3,4,5,6,7,8,9,10,11,12,13,0,1]→i<14 by decide))
  change Hid (aa W (bK L s g c db ⟨dn,⟨o,rd,rs,rt,ah⟩,iH,iI,nX,nY,nZ,jB,ku⟩ (ae w2.heap.size 40 #[.int .u64 (bv:Int)]::ae ib 39 #[Value.int .i64 o,.int .i64 rd,.int .i64 (rs:Int),.int .i64 (rt:Int),.int .i64 ah]::os)) _) at H3
  generalize w2.alloc (.cells #[.int .u64 (bv:Int)] 40)=w3 at *;generalize w2.heap.size=bb at *;clear H1 H2 hib
  go_wp2_with fail;have bN:=H3.out.drew.blk 13 rfl
  have aM:=H3.out.drew.blk 11 rfl
  have hne:ib≠db:=jQ bN aM (by decide)
  have s5:∀ W',SameL [ib] w3.drew W'→W'.cell? ⟨ib,4,none⟩=some (.int .i64 ah):=fun W' h=>h.cell (by simp) (bN.cell 4)
  have s6:∀ W',SameL [ib] w3.drew W'→W'.cell? ⟨ib,0,none⟩=some (.int .i64 o):=fun W' h=>h.cell (by simp) (bN.cell 0)
  have d8:w3.drew.cell? ⟨db,8,none⟩=some (.int .i64 nX):=aM.cell 8
  have d9:w3.drew.cell? ⟨db,9,none⟩=some (.int .u64 (nY:Int)):=aM.cell 9
  have d10:w3.drew.cell? ⟨db,10,none⟩=some (.int .i64 nZ):=aM.cell 10
  have hfr:=fun i=>Blk.frozen aM i
  have hdl:=aM.lt
  clear bN aM;refine wp_region_plan_by (SameL [ib]) (later_same _) [(0,false),(1,false),(2,false),(3,false),(4,false),(5,false),(6,false),(7,false),(8,false),(9,false),(10,false),(11,false),(12,false),(13,true),(14,false),(15,false),(16,true),(17,false),(18,false),(19,true)] (by kernel_rfl) (by kernel_rfl) (fun _ d _ _ _ h=>by cases d <;> exact h) ?_
  iterate 10 (refine plan_take (v:=?_) rfl (by kernel_rfl) ?_ ?_;rotate_left;(focus (intro w' hw';try go_simp;try with_reducible rfl));simp only [Act.put,pa1,pa2,pa3])
  refine plan_quiet rfl (by kernel_rfl) (fun w' => by go_simp; all_goals (first | exact ⟨rfl, rfl⟩ | rfl)) (fun w' hw' => uy.out w') ?_
  simp only [Act.put,pa1,pa2,pa3]
  iterate 2 (refine plan_take (v:=?_) rfl (by kernel_rfl) ?_ ?_;rotate_left;(focus (intro w' hw';try go_simp;try with_reducible rfl));simp only [Act.put,pa1,pa2,pa3])
  clear s5 s6 e1;have H4:=Yh H3.out.drew
  generalize w3.drew=w4 at *;refine plan_turn rfl (by kernel_rfl) (fun K hK=>?_)
  go_simp
  refine hK _ _ ⟨SameL.far _ _ _ (fun b hb=>by rw [List.mem_singleton.1 hb];exact hne),?_⟩
  clear hK K
  iterate 2 (refine plan_take (v:=?_) rfl (by kernel_rfl) ?_ ?_;rotate_left;(focus (intro w' hw';try go_simp;try with_reducible rfl));simp only [Act.put,pa1,pa2,pa3])
  refine plan_turn rfl (by kernel_rfl) (fun K hK=>?_)
  go_simp
  refine hK _ _ ⟨SameL.far _ _ _ (fun b hb=>by rw [List.mem_singleton.1 hb];exact hne),?_⟩
  clear hK K
  iterate 2 (refine plan_take (v:=?_) rfl (by kernel_rfl) ?_ ?_;rotate_left;(focus (intro w' hw';try go_simp;try with_reducible rfl));simp only [Act.put,pa1,pa2,pa3])
  refine plan_turn rfl (by kernel_rfl) (fun K hK=>?_)
  go_simp
  refine hK _ _ ⟨SameL.far _ _ _ (fun b hb=>by rw [List.mem_singleton.1 hb];exact hne),?_⟩
  clear hK K;refine aG ?_
  have H5:Hid (aa W (bK L s g c db ⟨dn,⟨o,rd,rs,rt,ah⟩,iH,iI,2,va,sz,jB,ku⟩ (ae bb 40 #[.int .u64 (bv:Int)]::ae ib 39 #[Value.int .i64 o,.int .i64 rd,.int .i64 (rs:Int),.int .i64 (rt:Int),.int .i64 ah]::os)) _):=Yh (((H4.out.ay 11 rfl 9 (.int .u64 (va:Int))).ay 11 rfl 10 (.int .i64 sz)).ay 11 rfl 8 (.int .i64 2))
  generalize ((w4.setCell _ _).setCell _ _).setCell _ _=w5 at *;clear H3 H4 d8 d9 d10 hfr hdl;have x0:w5.cell? ⟨ib,0,none⟩=some (.int .i64 o):=(H5.out.blk 13 rfl).cell 0
  have hks:ks (kd o)=⟨#[83]⟩:=by rw [hk];rfl
  have kS:=Yh hks
  clear hks hk
  go_wp2_with fail;refine (mD o _).mono ?_
  rintro e w6 ⟨rfl,rfl⟩;rw [kS.out];clear x0
  go_wp2_with fail;have aM:=H5.out.drew.blk 11 rfl
  have yI:=H5.out.drew.blk 12 rfl
  have s5:∀ W',ed [⟨db,9,none⟩,⟨db,10,none⟩,⟨bb,0,none⟩] w5.drew W'→W'.cell? ⟨db,9,none⟩=some (.int .u64 (va:Int)):=fun W' h=>(h _ (by simp)).trans (aM.cell 9)
  have s6:∀ W',ed [⟨db,9,none⟩,⟨db,10,none⟩,⟨bb,0,none⟩] w5.drew W'→W'.cell? ⟨db,10,none⟩=some (.int .i64 sz):=fun W' h=>(h _ (by simp)).trans (aM.cell 10)
  have s7:∀ W',ed [⟨db,9,none⟩,⟨db,10,none⟩,⟨bb,0,none⟩] w5.drew W'→W'.cell? ⟨bb,0,none⟩=some (.int .u64 (bv:Int)):=fun W' h=>(h _ (by simp)).trans (yI.cell 0)
  clear aM yI;refine wp_region_plan_by (ed [⟨db,9,none⟩,⟨db,10,none⟩,⟨bb,0,none⟩]) (AJ _) [(0,false),(1,false),(2,false),(3,false),(4,false),(5,false),(6,false),(7,false),(8,false),(9,false),(10,false),(11,true),(12,false)] (by kernel_rfl) (by kernel_rfl) (fun _ d _ _ _ h=>by cases d <;> exact h) ?_
  iterate 11 (refine plan_take (v:=?_) rfl (by kernel_rfl) ?_ ?_;rotate_left;(focus (intro w' hw';try go_simp;try with_reducible rfl));simp only [Act.put,pa1,pa2,pa3])
  clear s5 s6 s7;have H7:=Yh H5.out.drew
  generalize w5.drew=w7 at *
  refine plan_call rfl (by kernel_rfl) (by go_simp; exact ⟨rfl, rfl⟩) ?_
  refine (HU.out _ _ _ H7.out).mono ?_
  rintro e w8 ⟨rfl,h8,_⟩;have hsame:ed [⟨db,9,none⟩,⟨db,10,none⟩,⟨bb,0,none⟩] w7 w8:=fun p hp=>by
    have b1:=H7.out.blk 11 rfl
    have b2:=(aa.wu h8).blk 11 rfl
    have b3:=H7.out.blk 12 rfl
    have b4:=(aa.wu h8).blk 12 rfl
    simp only [List.mem_cons,List.not_mem_nil,or_false] at hp
    rcases hp with rfl|rfl|rfl
    · exact ed.blk b1 b2 _ ⟨_,rfl⟩
    · exact ed.blk b1 b2 _ ⟨_,rfl⟩
    · exact ed.blk b3 b4 _ ⟨_,rfl⟩
  have H8:Hid (aa W (bK L {s with T:=p.2.2,S:=S' } g c db ⟨dn,⟨o,rd,rs,rt,ah⟩,iH,iI,2,va,sz,jB,ku⟩ (ae bb 40 #[.int .u64 (bv:Int)]::ae ib 39 #[Value.int .i64 o,.int .i64 rd,.int .i64 (rs:Int),.int .i64 (rt:Int),.int .i64 ah]::os)) w8):=Yh (aa.wu h8)
  clear h8
  refine ⟨_, rfl, hsame, ?_⟩
  simp only [Act.put,pa1,pa2,pa3]
  clear hsame H7 HU H5
  iterate 1 (refine plan_take (v:=?_) rfl (by kernel_rfl) ?_ ?_;rotate_left;(focus (intro w' hw';try go_simp;try with_reducible rfl));simp only [Act.put,pa1,pa2,pa3])
  refine aG ?_
  have aM:=H8.out.drew.blk 11 rfl
  have yI:=H8.out.drew.blk 12 rfl
  have s6:∀ W',ed [⟨db,10,none⟩,⟨bb,0,none⟩] w8.drew W'→W'.cell? ⟨db,10,none⟩=some (.int .i64 sz):=fun W' h=>(h _ (by simp)).trans (aM.cell 10)
  have s7:∀ W',ed [⟨db,10,none⟩,⟨bb,0,none⟩] w8.drew W'→W'.cell? ⟨bb,0,none⟩=some (.int .u64 (bv:Int)):=fun W' h=>(h _ (by simp)).trans (yI.cell 0)
  have hbd:bb≠db:=jQ yI aM (by decide)
  have d12:w8.drew.cell? ⟨db,12,none⟩=some (.int .u64 (ku:Int)):=aM.cell 12
  have d11:w8.drew.cell? ⟨db,11,none⟩=some (.int .u64 (jB:Int)):=aM.cell 11
  have hfr:=fun i=>Blk.frozen aM i
  have hdl:=aM.lt
  clear aM yI
  go_wp2_with fail;refine wp_region_plan_by (ed [⟨db,10,none⟩,⟨bb,0,none⟩]) (AJ _) [(0,false),(1,false),(2,false),(3,false),(4,false),(5,false),(6,false),(7,false),(8,false),(9,true)] (by kernel_rfl) (by kernel_rfl) (fun _ d _ _ _ h=>by cases d <;> exact h) ?_
  iterate 6 (refine plan_take (v:=?_) rfl (by kernel_rfl) ?_ ?_;rotate_left;(focus (intro w' hw';try go_simp;try with_reducible rfl));simp only [Act.put,pa1,pa2,pa3])
  refine plan_quiet rfl (by kernel_rfl) (fun w' => by go_simp; all_goals (first | exact ⟨rfl, rfl⟩ | rfl)) (fun w' hw' => Gc.out w') ?_
  simp only [Act.put,pa1,pa2,pa3]
  iterate 2 (refine plan_take (v:=?_) rfl (by kernel_rfl) ?_ ?_;rotate_left;(focus (intro w' hw';try go_simp;try with_reducible rfl));simp only [Act.put,pa1,pa2,pa3])
  clear s6 s7;have H9:=Yh H8.out.drew
  generalize w8.drew=w9 at *;refine plan_turn rfl (by kernel_rfl) (fun K hK=>?_)
  go_simp
  refine hK _ _ ⟨ed.ay _ _ _ (fun q hq=>by simp only [List.mem_cons,List.not_mem_nil,or_false] at hq;rcases hq with rfl|rfl <;> simp [hbd]),?_⟩
  clear hK K;refine aG ?_
  obtain ⟨p1,p2,p3⟩:=p
  simp only at *
  have lJ:Hid (aa W (bK L {s with T:=p3,S:=S' } g c db ⟨dn,⟨o,rd,rs,rt,ah⟩,iH,iI,2,va,sz,jB,tv⟩ (ae bb 40 #[.int .u64 (bv:Int)]::ae ib 39 #[Value.int .i64 o,.int .i64 rd,.int .i64 (rs:Int),.int .i64 (rt:Int),.int .i64 ah]::os)) _):=Yh (H9.out.ay 11 rfl 12 (.int .u64 (tv:Int)))
  clear H8;by_cases hp:p2 = -1
  · subst hp
    have x0:(w9.setCell ⟨db,12,none⟩ (.int .u64 (tv:Int))).cell? ⟨ib,0,none⟩=some (.int .i64 o):=(lJ.out.blk 13 rfl).cell 0
    go_wp2_with fail;refine (mD o _).mono ?_
    rintro e wy ⟨rfl,rfl⟩;rw [kS.out]
    go_wp2_with fail;go_ret
    refine ⟨rfl,?_⟩
    exact aa.permA (xs:=bK L {s with T:=p3,S:=S' } g c db ⟨dn,⟨o,rd,rs,rt,ah⟩,iH,iI,2,va,sz,jB,tv⟩ [ae bb 40 #[.int .u64 (bv:Int)],ae ib 39 #[Value.int .i64 o,.int .i64 rd,.int .i64 (rs:Int),.int .i64 (rt:Int),.int .i64 ah]]) [0,1,2,3,4,5,6,7,8,9,10,11] lJ.out (by decide) (show ∀ i,i∈[0,1,2,3,4,5,6,7,8,9,10,11]→i<14 by decide)
  · have n1:(p2 == -1)=false:=by simp [hp]
    have n2:(p2 != -1)=true:=by simp [hp]
    go_wp2_with fail;go_ret
    refine ⟨rfl,?_⟩
    exact aa.permA (xs:=bK L {s with T:=p3,S:=S' } g c db ⟨dn,⟨o,rd,rs,rt,ah⟩,iH,iI,2,va,sz,0,0⟩ [ae bb 40 #[.int .u64 (bv:Int)],ae ib 39 #[Value.int .i64 o,.int .i64 rd,.int .i64 (rs:Int),.int .i64 (rt:Int),.int .i64 ah]]) [0,1,2,3,4,5,6,7,8,9,10,11] ((lJ.out.ay 11 rfl 11 (.int .u64 0)).ay 11 rfl 12 (.int .u64 0)) (by decide) (show ∀ i,i∈[0,1,2,3,4,5,6,7,8,9,10,11]→i<14 by decide)
end
section
variable {W w:World} {os:List Oj} {L:bL} {s:aC} {g db:Nat} {c:aD} {d:bJ}
theorem wL {n:Nat} {t:TypeId} {cs:Array Value} (h:aa W (bK L s g c db d (ae n t cs::os)) w):aa W (bK L s g c db d os) w:=
  aa.permA (xs:=bK L s g c db d [ae n t cs]) [0,1,2,3,4,5,6,7,8,9,10,11] h (by decide) (show ∀ i,i∈[0,1,2,3,4,5,6,7,8,9,10,11]→i<13 by decide)
theorem AO {cs:Array Value} {t:TypeId} (h:aa W (bK L s g c db d os) w):aa W (bK L s g c db d (ae w.heap.size t cs::os)) (w.alloc (.cells cs t)):=
  aa.permA (xs:=ae w.heap.size t cs::bK L s g c db d []) [1,2,3,4,5,6,7,8,9,10,11,12,0] (h.push cs t (b:=w.heap.size) rfl) (by decide) (show ∀ i,i∈[1,2,3,4,5,6,7,8,9,10,11,12,0]→i<13 by decide)
set_option maxRecDepth 100000 in
theorem Gd (o rd ah:Int) (rs rt:Int) (k:Nat) (hk:kd o=k) (hk2:k=7∨k=8) (pick:Int) (cause:Int) {s1 s2:aC} {c1:aD} {d1 d2:bJ} (hc1:c1.Ok)
    (hd:d.i=⟨o,rd,rs,rt,ah⟩) (hov:∀ w os',aa W (bK L s g c db d os') w→Calls Tryz.prog 173 #[.pointer (some ⟨g,0,none⟩),.pointer (some ⟨L.ub,0,none⟩),.pointer (some ⟨db,0,none⟩),.int .i64 pick] w fun e w' =>
      e=.returned (.int .i64 cause)∧(cause = -1→aa W (bK L s1 g c1 db d1 os') w')∧(cause ≠ -1→aa W (bK L s2 g c db d2 os') w')) (h:aa W (bK L s g c db d os) w):
    Calls Tryz.prog 131 #[.pointer (some ⟨g,0,none⟩),.pointer (some ⟨L.ub,0,none⟩),.pointer (some ⟨db,0,none⟩),.int .i64 pick] w fun e w'=>e=.returned (.tuple #[]) ∧
      (cause = -1→aa W (bK L s1 g (c1.to (wd (c1.pc+4))) db {d1 with done:=true,cause:=cause} os) w')∧(cause ≠ -1→aa W (bK L s2 g c db {d2 with cause:=cause} os) w'):=by
  obtain ⟨dn,di,iH,iI,nX,nY,nZ,jB,ku⟩:=d
  obtain rfl:di=_:=hd
  have bS:=h.blk 11 rfl
  have hld:=bS.lt
  have a1:w.cell? ⟨db,1,none⟩=some (.int .i64 o):=bS.cell 1
  have a2:w.cell? ⟨db,2,none⟩=some (.int .i64 rd):=bS.cell 2
  have a3:w.cell? ⟨db,3,none⟩=some (.int .i64 rs):=bS.cell 3
  have a4:w.cell? ⟨db,4,none⟩=some (.int .i64 rt):=bS.cell 4
  have a5:w.cell? ⟨db,5,none⟩=some (.int .i64 ah):=bS.cell 5
  have H1:=Yh (AO (cs:=#[.int .i64 o,.int .i64 rd,.int .i64 rs,.int .i64 rt,.int .i64 ah]) (t:=39) h)
  have LW:=Yh hov
  have lu:=Yh hc1
  have kS:=Yh (mD o)
  rw [hk] at kS;clear bS h hov hc1 hk;go_enter Tryz.func131,Tryz.ntmps131
  go_wp2_with fail;refine (kS.out _).mono ?_
  rintro e w2 ⟨rfl,rfl⟩;rcases hk2 with rfl|rfl
  · rw [show ks 7=⟨#[76]⟩ from rfl]
    go_wp2_with fail;refine (LW.out _ _ H1.out).mono ?_
    rintro e w2 ⟨rfl,h1,h2⟩;by_cases hc:cause = -1
    · subst hc
      have H2:=Yh (h1 rfl)
      have aM:=H2.out.blk 11 rfl
      have bY:=H2.out.blk 10 rfl
      have x7:w2.cell? ⟨db,7,none⟩=some (.int .i64 d1.cause):=aM.cell 7
      have x0:w2.cell? ⟨db,0,none⟩=some (.bool d1.done):=aM.cell 0
      have xp:w2.cell? ⟨g,16,none⟩=some (.int .u64 (c1.pc:Int)):=(bY.cell 16).trans (aD.sK lu.out 0)
      have hfr:=fun i=>Blk.frozen aM i
      have hfg:=fun i=>Blk.frozen bY i
      have hdl:=aM.lt
      have hgl:=bY.lt
      have hgd:g≠db:=jQ bY aM (by decide)
      have hdg:db≠g:=fun e=>hgd e.symm
      have e2:IntKind.u64.wrap ((c1.pc:Int)+4)=(wd (c1.pc+4):Int):=AB _
      clear aM bY h1 h2 a1 a2 a3 a4 a5
      go_wp2_with fail;refine bodyPost_end (results_none rfl _ _ _) rfl ?_
      refine ⟨rfl,?_⟩
      have H3:=((H2.out.ay 11 rfl 7 (.int .i64 (-1))).ay 10 rfl 16 (jP (wd (c1.pc+4)))).ay 11 rfl 0 (.bool true)
      rw [aD.vZ lu.out] at H3;exact wL H3
    · have H2:=Yh (h2 hc)
      have aM:=H2.out.blk 11 rfl
      have x7:w2.cell? ⟨db,7,none⟩=some (.int .i64 d2.cause):=aM.cell 7
      have hfr:=fun i=>Blk.frozen aM i
      have hdl:=aM.lt
      have n1:(cause == -1)=false:=by simp [hc]
      have n2:(cause != -1)=true:=by simp [hc]
      clear aM h1 h2 a1 a2 a3 a4 a5
      go_wp2_with fail;refine bodyPost_ret (results_none rfl _ _ _) rfl ?_
      refine ⟨rfl,fun hn=>absurd hn hc,fun _=>?_⟩
      exact wL (H2.out.ay 11 rfl 7 (.int .i64 cause))
  · rw [show ks 8=⟨#[83]⟩ from rfl]
    go_wp2_with fail;refine (LW.out _ _ H1.out).mono ?_
    rintro e w2 ⟨rfl,h1,h2⟩;by_cases hc:cause = -1
    · subst hc
      have H2:=Yh (h1 rfl)
      have aM:=H2.out.blk 11 rfl
      have bY:=H2.out.blk 10 rfl
      have x7:w2.cell? ⟨db,7,none⟩=some (.int .i64 d1.cause):=aM.cell 7
      have x0:w2.cell? ⟨db,0,none⟩=some (.bool d1.done):=aM.cell 0
      have xp:w2.cell? ⟨g,16,none⟩=some (.int .u64 (c1.pc:Int)):=(bY.cell 16).trans (aD.sK lu.out 0)
      have hfr:=fun i=>Blk.frozen aM i
      have hfg:=fun i=>Blk.frozen bY i
      have hdl:=aM.lt
      have hgl:=bY.lt
      have hgd:g≠db:=jQ bY aM (by decide)
      have hdg:db≠g:=fun e=>hgd e.symm
      have e2:IntKind.u64.wrap ((c1.pc:Int)+4)=(wd (c1.pc+4):Int):=AB _
      clear aM bY h1 h2 a1 a2 a3 a4 a5
      go_wp2_with fail;refine bodyPost_end (results_none rfl _ _ _) rfl ?_
      refine ⟨rfl,?_⟩
      have H3:=((H2.out.ay 11 rfl 7 (.int .i64 (-1))).ay 10 rfl 16 (jP (wd (c1.pc+4)))).ay 11 rfl 0 (.bool true)
      rw [aD.vZ lu.out] at H3;exact wL H3
    · have H2:=Yh (h2 hc)
      have aM:=H2.out.blk 11 rfl
      have x7:w2.cell? ⟨db,7,none⟩=some (.int .i64 d2.cause):=aM.cell 7
      have hfr:=fun i=>Blk.frozen aM i
      have hdl:=aM.lt
      have n1:(cause == -1)=false:=by simp [hc]
      have n2:(cause != -1)=true:=by simp [hc]
      clear aM h1 h2 a1 a2 a3 a4 a5
      go_wp2_with fail;refine bodyPost_ret (results_none rfl _ _ _) rfl ?_
      refine ⟨rfl,fun hn=>absurd hn hc,fun _=>?_⟩
      exact wL (H2.out.ay 11 rfl 7 (.int .i64 cause))
end
section
variable {W w:World} {os:List Oj} {L:bL} {s:aC} {g db:Nat} {c:aD} {d:bJ}
theorem Uv (h:aa W (bK L s g c db d os) w):aa W (aW g c::(ax L s (ae db 44 d.arr::os))) w:=
  aa.permA (xs:=bK L s g c db d []) [10,0,1,2,3,4,5,6,7,8,9,11] h (by decide) (show ∀ i,i∈[10,0,1,2,3,4,5,6,7,8,9,11]→i<12 by decide)
theorem Uw (h:aa W (aW g c::(ax L s (ae db 44 d.arr::os))) w):aa W (bK L s g c db d os) w:=
  aa.permA (xs:=aW g c::ax L s [ae db 44 d.arr]) [1,2,3,4,5,6,7,8,9,10,0,11] h (by decide) (show ∀ i,i∈[1,2,3,4,5,6,7,8,9,10,0,11]→i<12 by decide)
set_option maxRecDepth 100000 in
theorem Ux (o rd ah:Int) (rs rt:Nat) (hs:rs<16) (ht:rt<16) (hk:kd o=5) (pick:Int) (hc:c.Ok)
    (hd:d.i=⟨o,rd,rs,rt,ah⟩) (h:aa W (bK L s g c db d os) w):
    Calls Tryz.prog 131 #[.pointer (some ⟨g,0,none⟩),.pointer (some ⟨L.ub,0,none⟩),.pointer (some ⟨db,0,none⟩),.int .i64 pick] w fun e w'=>e=.returned (.tuple #[]) ∧
      aa W (bK L s g (mJ c o rd rs rt ah) db {d with done:=true} os) w':=by
  obtain ⟨dn,di,iH,iI,nX,nY,nZ,jB,ku⟩:=d
  obtain rfl:di=_:=hd
  have bS:=h.blk 11 rfl
  have hld:=bS.lt
  have a1:w.cell? ⟨db,1,none⟩=some (.int .i64 o):=bS.cell 1
  have a2:w.cell? ⟨db,2,none⟩=some (.int .i64 rd):=bS.cell 2
  have a3:w.cell? ⟨db,3,none⟩=some (.int .i64 (rs:Int)):=bS.cell 3
  have a4:w.cell? ⟨db,4,none⟩=some (.int .i64 (rt:Int)):=bS.cell 4
  have a5:w.cell? ⟨db,5,none⟩=some (.int .i64 ah):=bS.cell 5
  have H1:=Yh (AO (cs:=#[.int .i64 o,.int .i64 rd,.int .i64 (rs:Int),.int .i64 (rt:Int),.int .i64 ah]) (t:=39) h)
  have HJ:=Yh (fun w' h'=>Ul (W:=W) (w:=w') (g:=g) hc o rd rs rt ah hs ht h' (os:=ax L s (ae db 44 (bJ.arr ⟨dn,⟨o,rd,rs,rt,ah⟩,iH,iI,nX,nY,nZ,jB,ku⟩)::(ae w.heap.size 39 #[.int .i64 o,.int .i64 rd,.int .i64 (rs:Int),.int .i64 (rt:Int),.int .i64 ah]::os))))
  have kS:=Yh (mD o)
  rw [hk,show ks 5=⟨#[66]⟩ from rfl] at kS;clear bS h hc hk;generalize mJ c o rd rs rt ah=c2 at *;go_enter Tryz.func131,Tryz.ntmps131
  go_wp2_with fail;refine (kS.out _).mono ?_
  rintro e w2 ⟨rfl,rfl⟩
  go_wp2_with fail;refine (HJ.out _ (Uv H1.out)).mono ?_
  rintro e w2 ⟨rfl,h2⟩;have H2:=Yh (Uw h2)
  have aM:=H2.out.blk 11 rfl
  have x0:w2.cell? ⟨db,0,none⟩=some (.bool dn):=aM.cell 0
  have hfr:=fun i=>Blk.frozen aM i
  have hdl:=aM.lt
  clear h2 aM a1 a2 a3 a4 a5
  go_wp2_with fail;refine bodyPost_ret (results_none rfl _ _ _) rfl ?_
  exact ⟨rfl,wL (H2.out.ay 11 rfl 0 (.bool true))⟩
set_option maxRecDepth 100000 in
theorem Uy (rd rs rt ah:Int) (pick:Int) (hc:c.Ok)
    (hd:d.i=⟨0,rd,rs,rt,ah⟩) (h:aa W (bK L s g c db d os) w):
    Calls Tryz.prog 131 #[.pointer (some ⟨g,0,none⟩),.pointer (some ⟨L.ub,0,none⟩),.pointer (some ⟨db,0,none⟩),.int .i64 pick] w fun e w'=>e=.returned (.tuple #[]) ∧
      aa W (bK L s g {c with run:=1} db {d with done:=true} os) w':=by
  obtain ⟨dn,di,iH,iI,nX,nY,nZ,jB,ku⟩:=d
  obtain rfl:di=_:=hd
  have bS:=h.blk 11 rfl
  have hld:=bS.lt
  have a1:w.cell? ⟨db,1,none⟩=some (.int .i64 0):=bS.cell 1
  have a2:w.cell? ⟨db,2,none⟩=some (.int .i64 rd):=bS.cell 2
  have a3:w.cell? ⟨db,3,none⟩=some (.int .i64 rs):=bS.cell 3
  have a4:w.cell? ⟨db,4,none⟩=some (.int .i64 rt):=bS.cell 4
  have a5:w.cell? ⟨db,5,none⟩=some (.int .i64 ah):=bS.cell 5
  have H1:=Yh (AO (cs:=#[.int .i64 0,.int .i64 rd,.int .i64 rs,.int .i64 rt,.int .i64 ah]) (t:=39) h)
  have kS:=Yh (mD 0)
  rw [show ks (kd 0)=⟨#[78]⟩ from rfl] at kS;have HC:=Yh hc
  have aM:=H1.out.blk 11 rfl
  have bY:=H1.out.blk 10 rfl
  generalize HX:w.alloc (.cells #[.int .i64 0,.int .i64 rd,.int .i64 rs,.int .i64 rt,.int .i64 ah] 39)=w2 at *;have bN:=H1.out.blk 12 rfl
  have i0:w2.cell? ⟨w.heap.size,0,none⟩=some (.int .i64 0):=bN.cell 0
  have x0:w2.cell? ⟨db,0,none⟩=some (.bool dn):=aM.cell 0
  have xr:w2.cell? ⟨g,17,none⟩=some (.int .i64 c.run):=(bY.cell 17).trans (aD.sK hc 1)
  have hfr:=fun i=>Blk.frozen aM i
  have hfg:=fun i=>Blk.frozen bY i
  have hdl:=aM.lt
  have hgl:=bY.lt
  have hgd:g≠db:=jQ bY aM (by decide)
  have hdg:db≠g:=fun e=>hgd e.symm
  clear bS h hc aM bY bN;go_enter Tryz.func131,Tryz.ntmps131
  go_wp2_with fail;refine (kS.out _).mono ?_
  rintro e w3 ⟨rfl,rfl⟩;clear a1 a2 a3 a4 a5
  go_wp2_with fail;refine bodyPost_ret (results_none rfl _ _ _) rfl ?_
  have H3:=(H1.out.ay 10 rfl 17 (.int .i64 1)).ay 11 rfl 0 (.bool true)
  rw [aD.RI HC.out] at H3;exact ⟨rfl,wL H3⟩
end
section
variable {W w:World} {os:List Oj} {L:bL} {s:aC} {g db:Nat} {c:aD} {d:bJ}
theorem aD.LX (c:aD) (n:Int) (v:Nat):(c.cO n v).pc=c.pc:=by unfold aD.cO;split <;> rfl
theorem Uz {o ah:Int} {a b:Nat} (ho:o=1∨o=2∨o=3):fA o ah a b 0<18446744073709551616:=by
  rcases ho with rfl|rfl|rfl
  · exact ny _
  · exact ny _
  · exact Nat.mod_lt _ (by decide)
set_option maxRecDepth 100000 in
theorem UA (o rd ah:Int) (rs rt:Nat) (hs:rs<16) (ht:rt<16) (ho:o=1∨o=2∨o=3) (pick:Int) (hc:c.Ok)
    (hd:d.i=⟨o,rd,rs,rt,ah⟩) (h:aa W (bK L s g c db d os) w):
    Calls Tryz.prog 131 #[.pointer (some ⟨g,0,none⟩),.pointer (some ⟨L.ub,0,none⟩),.pointer (some ⟨db,0,none⟩),.int .i64 pick] w fun e w'=>e=.returned (.tuple #[]) ∧
      aa W (bK L s g ((c.cO rd (fA o ah (c.r.getD rs 0) (c.r.getD rt 0) 0)).to (wd (c.pc+4))) db {d with done:=true} os) w':=by
  obtain ⟨dn,di,iH,iI,nX,nY,nZ,jB,ku⟩:=d
  obtain rfl:di=_:=hd
  have bS:=h.blk 11 rfl
  have hld:=bS.lt
  have a1:w.cell? ⟨db,1,none⟩=some (.int .i64 o):=bS.cell 1
  have a2:w.cell? ⟨db,2,none⟩=some (.int .i64 rd):=bS.cell 2
  have a3:w.cell? ⟨db,3,none⟩=some (.int .i64 (rs:Int)):=bS.cell 3
  have a4:w.cell? ⟨db,4,none⟩=some (.int .i64 (rt:Int)):=bS.cell 4
  have a5:w.cell? ⟨db,5,none⟩=some (.int .i64 ah):=bS.cell 5
  have H1:=Yh (AO (cs:=#[.int .i64 o,.int .i64 rd,.int .i64 (rs:Int),.int .i64 (rt:Int),.int .i64 ah]) (t:=39) h)
  have UB:=Yh (fun W'=>Uq o rd rs rt ah (c.r.getD rs 0) (c.r.getD rt 0) W' ho (hc.lt rs))
  have hrl:=Uz (ah:=ah) (a:=c.r.getD rs 0) (b:=c.r.getD rt 0) ho
  have kS:=Yh (mD o)
  have hkk:∃ b,ks (kd o)=⟨b⟩∧(b=#[73]∨b=#[82,73]):=by
    rcases ho with rfl|rfl|rfl
    · exact ⟨_,rfl,.inl rfl⟩
    · exact ⟨_,rfl,.inr rfl⟩
    · exact ⟨_,rfl,.inr rfl⟩
  have HC:=Yh hc
  have uQ:=Yh (hc.cO (n:=rd) hrl)
  have hpc:=aD.LX c rd (fA o ah (c.r.getD rs 0) (c.r.getD rt 0) 0)
  have HS:=Yh (fun (w':World) (os':List Oj) (h':aa W os' w') (hi:os'[10]? = some (aW g c))=>CP hc rd (fA o ah (c.r.getD rs 0) (c.r.getD rt 0)  0) h' 10 hi)
  generalize fA o ah (c.r.getD rs 0) (c.r.getD rt 0) 0=rv at *;generalize hw1:w.alloc (.cells #[.int .i64 o,.int .i64 rd,.int .i64 (rs:Int),.int .i64 (rt:Int),.int .i64 ah] 39)=w1 at *;have bN:=H1.out.drew.blk 12 rfl
  have bY:=H1.out.drew.blk 10 rfl
  have i0:w1.cell? ⟨w.heap.size,0,none⟩=some (.int .i64 o):=bN.cell 0
  have s0:∀ W',Ext w1.drew W'→W'.cell? ⟨w.heap.size,0,none⟩=some (.int .i64 o):=fun W' h=>(h.cell (p:=⟨w.heap.size,0,none⟩) bN.lt).trans (bN.cell 0)
  have s1:∀ W',Ext w1.drew W'→W'.cell? ⟨w.heap.size,1,none⟩=some (.int .i64 rd):=fun W' h=>(h.cell (p:=⟨w.heap.size,1,none⟩) bN.lt).trans (bN.cell 1)
  have s2:∀ W',Ext w1.drew W'→W'.cell? ⟨w.heap.size,2,none⟩=some (.int .i64 (rs:Int)):=fun W' h=>(h.cell (p:=⟨w.heap.size,2,none⟩) bN.lt).trans (bN.cell 2)
  have s3:∀ W',Ext w1.drew W'→W'.cell? ⟨w.heap.size,3,none⟩=some (.int .i64 (rt:Int)):=fun W' h=>(h.cell (p:=⟨w.heap.size,3,none⟩) bN.lt).trans (bN.cell 3)
  have s4:∀ W',Ext w1.drew W'→W'.cell? ⟨w.heap.size,4,none⟩=some (.int .i64 ah):=fun W' h=>(h.cell (p:=⟨w.heap.size,4,none⟩) bN.lt).trans (bN.cell 4)
  have r1:∀ W',Ext w1.drew W'→W'.cell? ⟨g,rs,none⟩=some (.int .u64 (c.r.getD rs 0:Nat)):=fun W' h=>(h.cell (p:=⟨g,rs,none⟩) bY.lt).trans ((bY.cell rs).trans (aD.sJ HC.out hs))
  have r2:∀ W',Ext w1.drew W'→W'.cell? ⟨g,rt,none⟩=some (.int .u64 (c.r.getD rt 0:Nat)):=fun W' h=>(h.cell (p:=⟨g,rt,none⟩) bY.lt).trans ((bY.cell rt).trans (aD.sJ HC.out ht))
  generalize c.r.getD rs 0=av at *;generalize c.r.getD rt 0=bv at *;have k1:(rs:Int)<16:=by omega
  have k2:(rt:Int)<16:=by omega
  clear bS h hc bN bY hrl ho;obtain ⟨kb,hks,hkb⟩:=hkk
  rw [hks] at kS;clear hks;go_enter Tryz.func131,Tryz.ntmps131
  go_wp2_with fail;refine (kS.out _).mono ?_
  rintro e w3 ⟨rfl,rfl⟩;clear a1 a2 a3 a4 a5;rcases hkb with rfl|rfl
  all_goals
    go_wp2_with fail
    refine wp_region_plan [(0, false), (1, false), (2, false), (3, false), (4, false), (5, false), (6, false), (7, false), (8, false), (9, false), (10, false), (11, false), (12, false), (13, false), (14, false), (15, true), (16, false), (17, false), (18, false), (19, false), (20, false)] (by kernel_rfl) (by kernel_rfl) (fun _ d _ _ _ h => by cases d <;> exact h) ?_
    iterate 15 (refine plan_take (v:=?_) rfl (by kernel_rfl) ?_ ?_;rotate_left;(focus (intro w' hw';try go_simp;try with_reducible rfl));simp only [Act.put,pa1,pa2,pa3])
    refine plan_call rfl (by kernel_rfl) (by go_simp; exact ⟨rfl, rfl⟩) ?_
    refine (UB.out _).mono ?_
    rintro e w4 ⟨rfl,hw4⟩;have CQ:Ext w1.drew w4:=by rw [← hw4];exact cZ _ _
    refine ⟨_, rfl, CQ, ?_⟩
    simp only [Act.put,pa1,pa2,pa3]
    iterate 5 (refine plan_take (v:=?_) rfl (by kernel_rfl) ?_ ?_;rotate_left;(focus (intro w' hw';try go_simp;try with_reducible rfl));simp only [Act.put,pa1,pa2,pa3])
    refine aG ?_
    have H4:=Yh (H1.out.drew.step CQ)
    have t1:=s1 _ CQ
    clear s0 s1 s2 s3 s4 r1 r2 hw4 CQ i0
    go_wp2_with fail;refine (HS.out _ _ H4.out rfl).mono ?_
    rintro e w5 ⟨rfl,h5,_⟩;have H5:Hid (aa W (bK L s g (c.cO rd rv) db ⟨dn,⟨o,rd,rs,rt,ah⟩,iH,iI,nX,nY,nZ,jB,ku⟩ (ae w.heap.size 39 #[.int .i64 o,.int .i64 rd,.int .i64 (rs:Int),.int .i64 (rt:Int),.int .i64 ah]::os)) w5):=Yh h5
    have aM:=H5.out.blk 11 rfl
    have bY:=H5.out.blk 10 rfl
    have x0:w5.cell? ⟨db,0,none⟩=some (.bool dn):=aM.cell 0
    have xp:w5.cell? ⟨g,16,none⟩=some (.int .u64 (c.pc:Int)):=by
      rw [← hpc];exact (bY.cell 16).trans (aD.sK uQ.out 0)
    have hfr:=fun i=>Blk.frozen aM i
    have hfg:=fun i=>Blk.frozen bY i
    have hdl:=aM.lt
    have hgl:=bY.lt
    have hgd:g≠db:=jQ bY aM (by decide)
    have hdg:db≠g:=fun e=>hgd e.symm
    have e2:IntKind.u64.wrap ((c.pc:Int)+4)=(wd (c.pc+4):Int):=AB _
    clear aM bY h5
    go_wp2_with fail;refine bodyPost_end (results_none rfl _ _ _) rfl ?_
    have H6:=(H5.out.ay 10 rfl 16 (jP (wd (c.pc+4)))).ay 11 rfl 0 (.bool true)
    rw [aD.vZ uQ.out] at H6;exact ⟨rfl,wL H6⟩
end
def iU:Array Value:=#[Value.bool false,.int .i64 0,.int .i64 0,.int .i64 0,.int .i64 0,.int .i64 0,.int .u64 0,.int .i64 0,.int .i64 0,.int .u64 0,.int .i64 0,.int .u64 0,.int .u64 0]
def jC (i:In) (pc:Nat):bJ:=⟨false,i,pc,-1,0,0,0,0,0⟩
theorem sW (d:bJ):dO Tryz.prog 44 d.arr.size=true:=by
  show dO Tryz.prog 44 13=true
  kernel_rfl
theorem Gf (d:bJ):d.arr.all (·.oneCell')=true:=by simp [bJ.arr,Value.oneCell']
section
variable {W w:World} {os:List Oj} {L:bL} {s:aC} {g:Nat} {c:aD}
set_option maxRecDepth 100000 in
theorem UC {P:aC→aD→bJ→Prop} (hc:c.Ok) (hrun:c.run=0) (i:In) (pick:Int) (hpk:-9223372036854775808≤pick∧pick<9223372036854775808) (hun:L.un.Ok)
    (h1:(fK L s c.pc 4 0 pick).2.1 = -1) (hx:fZ L.n s.S (fK L s c.pc 4 0 pick) 4<4294967296) (hr:Az (fZ L.n s.S (fK L s c.pc 4 0 pick) 4:Int)=true) (hi:AA (fZ L.n s.S (fK L s c.pc 4 0 pick) 4:Int)=.agg #[.int .i64 i.op,.int .i64 i.rd,.int .i64 i.rs,.int .i64 i.rt,.int .i64 i.ah])
    (hdo:∀ w os' db,aa W (bK L {s with T:=(fK L s c.pc 4 0 pick).2.2} g c db (jC i c.pc) os') w→Calls Tryz.prog 131 #[.pointer (some ⟨g,0,none⟩),.pointer (some ⟨L.ub,0,none⟩),.pointer (some ⟨db,0,none⟩),.int .i64 pick] w fun e w'=>e=.returned (.tuple #[]) ∧
      ∃ s2 c2 d2,P s2 c2 d2∧aa W (bK L s2 g c2 db d2 os') w')
    (h:aa W (ax L s (aW g c::os)) w):
    Calls Tryz.prog 82 #[.pointer (some ⟨g,0,none⟩),.pointer (some ⟨L.ub,0,none⟩),.int .i64 pick] w fun e w'=>∃ s2 c2 d2,P s2 c2 d2∧e=.returned (.agg d2.arr)∧aa W (ax L s2 (aW g c2::os)) w':=by
  have HF:=Yh (fun w' os' (h':aa W (ax L s os') w')=>UD L.ub L.gm L.b L.n L.k L.m L.un s.S s.T (ym L s os') c.pc pick W w' hc.pc hpk hun h'.yn)
  have HG:=Yh (fun W'=>TU (fZ L.n s.S (fK L s c.pc 4 0 pick) 4:Int) W' (by omega) (by omega) hr)
  rw [hi] at HG;have HD:=Yh hdo
  unfold fK at *;have abA:IntKind.u32.wrap (fZ L.n s.S (bB L.n s.S s.T L.un c.pc 4 0 pick) 4:Int)=(fZ L.n s.S (bB L.n s.S s.T L.un c.pc 4 0 pick) 4:Int):=by
    rw [IntKind.wrap_u32];omega
  generalize fZ L.n s.S (bB L.n s.S s.T L.un c.pc 4 0 pick) 4=x at *;generalize bB L.n s.S s.T L.un c.pc 4 0 pick=p at *;obtain ⟨p1,p2,p3⟩:=p
  simp only at *
  subst h1;obtain ⟨o,rd,rs,rt,ah⟩:=i
  have H1:=Yh (h.push #[Value.bool false,.int .i64 0,.int .i64 0,.int .i64 0,.int .i64 0,.int .i64 0,.int .u64 0,.int .i64 0,.int .i64 0,.int .u64 0,.int .i64 0,.int .u64 0,.int .u64 0] 44 (b:=w.heap.size) rfl)
  have H2:=Yh (H1.out.push #[Value.bool false,.int .i64 0,.int .i64 0,.int .i64 0,.int .i64 0,.int .i64 0,.int .u64 (c.pc:Int),.int .i64 (-1),.int .i64 0,.int .u64 0,.int .i64 0,.int .u64 0,.int .u64 0] 44 (b:=w.heap.size+1) (by simp))
  have HR:=Yh (wJ hc H1.out 11 rfl)
  rw [hrun] at HR;have b1:=H1.out.blk 11 rfl
  have b2:=H2.out.blk 12 rfl
  have xp:(w.alloc (.cells #[Value.bool false,.int .i64 0,.int .i64 0,.int .i64 0,.int .i64 0,.int .i64 0,.int .u64 0,.int .i64 0,.int .i64 0,.int .u64 0,.int .i64 0,.int .u64 0,.int .u64 0] 44)).cell? ⟨g,16,none⟩=some (.int .u64 (c.pc:Int)):=(b1.cell 16).trans (aD.sK hc 0)
  have xq:((w.alloc (.cells #[Value.bool false,.int .i64 0,.int .i64 0,.int .i64 0,.int .i64 0,.int .i64 0,.int .u64 0,.int .i64 0,.int .i64 0,.int .u64 0,.int .i64 0,.int .u64 0,.int .u64 0] 44)).alloc (.cells #[Value.bool false,.int .i64 0,.int .i64 0,.int .i64 0,.int .i64 0,.int .i64 0,.int .u64 (c.pc:Int),.int .i64 (-1),.int .i64 0,.int .u64 0,.int .i64 0,.int .u64 0,.int .u64 0] 44)).cell? ⟨g,16,none⟩=some (.int .u64 (c.pc:Int)):=(b2.cell 16).trans (aD.sK hc 0)
  have hgl:=b1.lt
  have HC:=Yh hc
  clear h hc hpk hun hr hi hdo hx b1 b2;go_enter Tryz.func82,Tryz.ntmps82
  go_wp2_with fail;refine HR.out.mono ?_
  rintro e w1 ⟨rfl,rfl⟩
  go_wp2_with fail;have H3:Hid (aa W (ax L s (aW g c::ae (w.heap.size+1) 44 (jC lF c.pc).arr::ae w.heap.size 44 #[Value.bool false,.int .i64 0,.int .i64 0,.int .i64 0,.int .i64 0,.int .i64 0,.int .u64 0,.int .i64 0,.int .i64 0,.int .u64 0,.int .i64 0,.int .u64 0,.int .u64 0]::os)) _):=Yh (aa.permA (xs:=ae (w.heap.size+1) 44 #[Value.bool false,.int .i64 0,.int .i64 0,.int .i64 0,.int .i64 0,.int .i64 0,.int .u64 (c.pc:Int),.int .i64 (-1),.int .i64 0,.int .u64 0,.int .i64 0,.int .u64 0,.int .u64 0]::ae w.heap.size 44 #[Value.bool false,.int .i64 0,.int .i64 0,.int .i64 0,.int .i64 0,.int .i64 0,.int .u64 0,.int .i64 0,.int .i64 0,.int .u64 0,.int .i64 0,.int .u64 0,.int .u64 0]::ax L s [aW g c]) [2,3,4,5,6,7,8,9,10,11,12,0,1] H2.out (by decide) (show ∀ i,i∈[2,3,4,5,6,7,8,9,10,11,12,0,1]→i<13 by decide))
  refine (HF.out _ _ H3.out).mono ?_
  rintro e w2 ⟨rfl,h2,_⟩;have H4:Hid (aa W (bK L {s with T:=p3} g c (w.heap.size+1) (jC lF c.pc) (ae w.heap.size 44 #[Value.bool false,.int .i64 0,.int .i64 0,.int .i64 0,.int .i64 0,.int .i64 0,.int .u64 0,.int .i64 0,.int .i64 0,.int .u64 0,.int .i64 0,.int .u64 0,.int .u64 0]::os)) w2):=Yh (aa.wu h2)
  clear h2 xp xq H1 H2 H3 HF hgl;generalize w.heap.size=rb at *;generalize rb+1=db at *
  go_wp2_with fail;refine (HG.out _).mono ?_
  rintro e w3 ⟨rfl,hb3⟩;have H5:=Yh (AO (cs:=#[.int .i64 o,.int .i64 rd,.int .i64 rs,.int .i64 rt,.int .i64 ah]) (t:=39) (H4.out.step hb3))
  have aM:=H5.out.blk 11 rfl
  generalize hw4:w3.alloc (.cells #[.int .i64 o,.int .i64 rd,.int .i64 rs,.int .i64 rt,.int .i64 ah] 39)=w4 at *;have d1:w4.cell? ⟨db,1,none⟩=some (.int .i64 0):=aM.cell 1
  have d2:w4.cell? ⟨db,2,none⟩=some (.int .i64 0):=aM.cell 2
  have d3:w4.cell? ⟨db,3,none⟩=some (.int .i64 0):=aM.cell 3
  have d4:w4.cell? ⟨db,4,none⟩=some (.int .i64 0):=aM.cell 4
  have d5:w4.cell? ⟨db,5,none⟩=some (.int .i64 0):=aM.cell 5
  have hfr:=fun i=>Blk.frozen aM i
  have hdl:=aM.lt
  have bN:=H5.out.blk 12 rfl
  have x0:w4.cell? ⟨w3.heap.size,0,none⟩=some (.int .i64 o):=bN.cell 0
  have x1:w4.cell? ⟨w3.heap.size,1,none⟩=some (.int .i64 rd):=bN.cell 1
  have x2:w4.cell? ⟨w3.heap.size,2,none⟩=some (.int .i64 rs):=bN.cell 2
  have x3:w4.cell? ⟨w3.heap.size,3,none⟩=some (.int .i64 rt):=bN.cell 3
  have x4:w4.cell? ⟨w3.heap.size,4,none⟩=some (.int .i64 ah):=bN.cell 4
  clear aM bN H4 hb3
  go_wp2_with fail;have H6:Hid (aa W (bK L {s with T:=p3} g c db (jC ⟨o,rd,rs,rt,ah⟩ c.pc) (ae w3.heap.size 39 #[.int .i64 o,.int .i64 rd,.int .i64 rs,.int .i64 rt,.int .i64 ah]::ae rb 44 #[Value.bool false,.int .i64 0,.int .i64 0,.int .i64 0,.int .i64 0,.int .i64 0,.int .u64 0,.int .i64 0,.int .i64 0,.int .u64 0,.int .i64 0,.int .u64 0,.int .u64 0]::os)) _):=Yh (((((H5.out.ay 11 rfl 1 (.int .i64 o)).ay 11 rfl 2 (.int .i64 rd)).ay 11 rfl 3 (.int .i64 rs)).ay 11 rfl 4 (.int .i64 rt)).ay 11 rfl 5 (.int .i64 ah))
  refine (HD.out _ _ _ H6.out).mono ?_
  rintro e w6 ⟨rfl,s2,c2,wM,hP,h7⟩;have H7:=Yh h7
  have HP:=Yh hP
  have hrg:=(h7.blk 11 rfl).range
  have hbk:Blk w6 rb 44 iU:=h7.blk 13 rfl
  have hdl:=(h7.blk 11 rfl).lt
  have hrl:=hbk.lt
  clear h7 hP H5 H6 d1 d2 d3 d4 d5 hfr x0 x1 x2 x3 x4
  go_wp2_with (first|((with_reducible refine wl_load 44 (.tmp 7) rfl ?_ db 0 wM.arr ?_ hrg ?_ ?_); exact rfl; exact rfl; exact sW _)|((with_reducible refine wl_store 44 (.tmp 6) (.tmp 61) rfl ?_ rb 44 iU wM.arr ?_ ?_ hbk ?_ ?_ ?_ ?_); exact rfl; exact rfl; exact rfl; exact rfl; exact sW _; exact Gf _))
  have gW:=Yh (H7.out.row 13 rfl wM.arr)
  refine bodyPost_ret (kK Tryz.results82 _ _ rb 44 wM.arr rfl (gW.out.blk 13 rfl) (sW _)) rfl ?_
  refine ⟨s2,c2,wM,HP.out,rfl,?_⟩
  exact aa.permA (xs:=bK L s2 g c2 db wM [ae w3.heap.size 39 #[.int .i64 o,.int .i64 rd,.int .i64 rs,.int .i64 rt,.int .i64 ah],ae rb 44 wM.arr]) [0,1,2,3,4,5,6,7,8,9,10] gW.out (by decide) (show ∀ i,i∈[0,1,2,3,4,5,6,7,8,9,10]→i<14 by decide)
end
end Go.Proofs.YtnebdlchogmneaaGreatDoor
