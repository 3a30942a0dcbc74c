/- Texts of the proof: AsJ, AsK, AsL, AsM, AsN, AsO, LayG, TxA, TxB, TxS, TxS0, TxS1, TxS2. -/
import Derived.Test.YtnebdlchogmneaaGreatDoorPk1
import Derived.Test.YtnebdlchogmneaaGreatDoorPk25
import Derived.LoopN
import Derived.Laws.RangeString
import Derived.Test.YtnebdlchogmneaaGreatDoorPk22
import Derived.Laws.Concat
import Derived.Test.YtnebdlchogmneaaGreatDoorRows
import Derived.Test.YtnebdlchogmneaaGreatDoorPk24
import Derived.Test.YtnebdlchogmneaaGreatDoorPk23
set_option maxHeartbeats 8000000
set_option linter.unusedVariables false
set_option linter.unusedSimpArgs false
namespace Go.Proofs.YtnebdlchogmneaaGreatDoor
open Go.RowKit Go.Maps
theorem Dy (w:World) (k:Nat) (c:Nat) (hk:k<(⟨#[108,111,111,112]⟩:ByteArray).size) (hc:((⟨#[108,111,111,112]⟩:ByteArray)[k]'hk).toNat=c) (h8:c<128) (ty:TypeId):
    (Instr.next (.pointer (some ⟨w.heap.size,0,none⟩)) true ty).run Tryz.prog (w.iter ⟨#[108,111,111,112]⟩ k)=.ok (.tuple #[.bool true,.int .i64 (k:Int),.int .i32 (c:Int)]) (w.iter ⟨#[108,111,111,112]⟩ (k+1)):=by
  subst hc;exact run_next_ascii w _ k ty hk h8
set_option maxRecDepth 100000 in
theorem NN (w:World):Calls Tryz.prog 63 #[.string ⟨#[108,111,111,112]⟩] w fun e w'=>e=.returned (.bool true)∧Below w.heap.size w w':=by
  have n0:∀ ty,(Instr.next (.pointer (some ⟨w.heap.size,0,none⟩)) true ty).run Tryz.prog (w.iter ⟨#[108,111,111,112]⟩ 0)=.ok (.tuple #[.bool true,.int .i64 0,.int .i32 108]) (w.iter ⟨#[108,111,111,112]⟩ 1):=fun ty=>Dy w 0 108 (by decide) (by decide) (by decide) ty
  have n1:∀ ty,(Instr.next (.pointer (some ⟨w.heap.size,0,none⟩)) true ty).run Tryz.prog (w.iter ⟨#[108,111,111,112]⟩ 1)=.ok (.tuple #[.bool true,.int .i64 1,.int .i32 111]) (w.iter ⟨#[108,111,111,112]⟩ 2):=fun ty=>Dy w 1 111 (by decide) (by decide) (by decide) ty
  have n2:∀ ty,(Instr.next (.pointer (some ⟨w.heap.size,0,none⟩)) true ty).run Tryz.prog (w.iter ⟨#[108,111,111,112]⟩ 2)=.ok (.tuple #[.bool true,.int .i64 2,.int .i32 111]) (w.iter ⟨#[108,111,111,112]⟩ 3):=fun ty=>Dy w 2 111 (by decide) (by decide) (by decide) ty
  have n3:∀ ty,(Instr.next (.pointer (some ⟨w.heap.size,0,none⟩)) true ty).run Tryz.prog (w.iter ⟨#[108,111,111,112]⟩ 3)=.ok (.tuple #[.bool true,.int .i64 3,.int .i32 112]) (w.iter ⟨#[108,111,111,112]⟩ 4):=fun ty=>Dy w 3 112 (by decide) (by decide) (by decide) ty
  have n4:∀ ty,(Instr.next (.pointer (some ⟨w.heap.size,0,none⟩)) true ty).run Tryz.prog (w.iter ⟨#[108,111,111,112]⟩ 4)=.ok (.tuple #[.bool false]) (w.iter ⟨#[108,111,111,112]⟩ 4):=fun ty=>run_next_end w _ 4 ty (by decide)
  have hr:=fun t h=>run_range_string (P:=Tryz.prog) w t ⟨#[108,111,111,112]⟩ h
  have hb:Below w.heap.size w (w.iter ⟨#[108,111,111,112]⟩ 4):=(Below.refl _ _).alloc (Nat.le_refl _) _
  have HB:=Yh hb
  clear hb hr;go_enter Tryz.func63,Tryz.ntmps63
  go_wp2_with fail;refine wp_loop_rounds 5 ?_
  iterate 5
    rw [rounds_succ]
    go_wp2_with fail
  go_ret
  exact ⟨rfl,HB.out⟩
structure pQ where
  ins:List In
  lab:Option Nat
  jmp:Option (Nat × Nat)
def iK (l:List In):List Value:=l.flatMap In.cs
def nI:ByteArray:=⟨#[108,111,111,112]⟩
def rV (o:Option Nat):List UInt8→Option Value:=fun k=>if k = [108,111,111,112] then o.map (fun n=>.int .i64 (n:Int)) else none
def Hu:Option Nat→Nat|none=>0|some _=>1
def Dz:Option (Nat × Nat)→List Value|none=>[]|some (a,b)=>[.int .i64 (a:Int),.int .i64 (b:Int),.string nI]
def NP:Option (Nat × Nat)→Nat|none=>0|some _=>1
def cu (B rb mb:Nat) (s:pQ) (lv jv:Value) (os:List Oj):List Oj:=
  ae rb 109 #[lv,.map (some mb),jv]::aS B 39 5 s.ins.length lv (iK s.ins)::qz 9 (.int .i64 0) mb (Hu s.lab) (rV s.lab)::aS B 165 3 (NP s.jmp) jv (Dz s.jmp)::os
theorem NQ (l:List In) (i:In):iK (l++[i])=iK l++i.cs:=by simp [iK]
theorem NR:(Tryz.prog.info? 39).map (fun i=>(i.zero,i.size,i.bytes))=some (some (.agg #[Value.int .i64 0,.int .i64 0,.int .i64 0,.int .i64 0,.int .i64 0]),5,40):=by kernel_rfl
theorem NS (o rd rs rt im:Int):∀ v∈(aZ o rd rs rt im).toList,v.oneCell'=true:=by
  intro v hv;simp only [aZ,List.mem_cons,List.not_mem_nil,or_false] at hv
  rcases hv with rfl|rfl|rfl|rfl|rfl <;> rfl
theorem Hw (o rd rs rt im:Int):(aZ o rd rs rt im).all (·.oneCell')=true:=by simp [aZ,Value.oneCell']
theorem zb (s:ByteArray):(⟨s.data.toList.toArray⟩:ByteArray)=s:=by simp
structure Plain (s:ByteArray):Prop where
  size:s.size≤1000
  cut:Lib.cut s.data.toList [35]=(s.data.toList,[],false)
  trim:Lib.trimB s.data.toList 32=s.data.toList
  ne:s.toList.isEmpty=false
section
variable {W w:World} {os:List Oj} {B rb mb:Nat} {s:pQ} {lv jv:Value}
set_option maxRecDepth 100000 in
theorem Ye (t:ByteArray) (i:In) (n:Int) (hp:Plain t) (NT:Lib.hasSuffix t.data.toList [58]=false) (hl:s.ins.length≤1000) (hg:Gl W)
    (hL:∀ w,Gl w→Calls Tryz.prog 64 #[.string t] w fun e w'=>e=.returned (.tuple #[.agg (aZ i.op i.rd i.rs i.rt i.ah),.bool true])∧Below w.heap.size w w')
    (h:aa W (cu W.heap.size rb mb s lv jv os) w):
    Calls Tryz.prog 34 #[.pointer (some ⟨rb,0,none⟩),.string t,.int .i64 n] w fun e w'=>e=.returned (.bool true)∧∃ mV,aa W (cu W.heap.size rb mb {s with ins:=s.ins++[i] } mV jv os) w':=by
  have HC:=Yh (fun w hg=>xg t ⟨#[35]⟩ t.data.toList [] false hp.cut (by have:=hp.size;omega) w hg)
  rw [zb] at HC;have HT:=Yh (fun w=>Tryz.strings_Trim_one t 32 (by decide) w (by have:=hp.size;omega))
  rw [hp.trim,zb] at HT;have HS:=Yh (fun w=>Tryz.strings_CutSuffix t ⟨#[58]⟩ w (by have:=hp.size;omega))
  change Hid (∀ w,Calls _ _ _ _ fun e w'=>e=.returned (.tuple #[.string ⟨(Lib.trimSuffix t.data.toList [58]).toArray⟩,.bool (Lib.hasSuffix t.data.toList [58])])∧w'=w) at HS
  rw [NT] at HS;have hne:=hp.ne
  obtain ⟨j0,hj0,hy0,hy1,hy2⟩:=info_parts NR
  have H0:=Yh h
  have HG:=Yh hg
  have HL:=Yh hL
  have HN:=Yh hl
  clear h hg hL hl hp NT;obtain ⟨o,rd,rs,rt,im⟩:=i
  change Hid (∀ w,Gl w→Calls _ _ _ _ fun e w'=>e=.returned (.tuple #[.agg (aZ o rd rs rt im),.bool true])∧Below w.heap.size w w') at HL
  generalize (⟨(Lib.trimSuffix t.data.toList [58]).toArray⟩:ByteArray)=t2 at *;go_enter Tryz.func34,Tryz.ntmps34
  go_wp2_with fail;refine (HC.out _ (kD HG.out H0.out)).mono ?_
  rintro e w1 ⟨rfl,hb1⟩;have H1:=Yh (H0.out.step hb1)
  clear hb1 H0
  go_wp2_with fail;refine (HT.out _).mono ?_
  rintro e w2 ⟨rfl,hw2⟩;have H2:Hid (aa W (cu W.heap.size rb mb s lv jv os) w2):=Yh (by
    rcases hw2 with rfl|rfl
    · exact H1.out
    · exact H1.out.drew)
  clear hw2 H1
  go_wp2_with fail;refine (HS.out _).mono ?_
  rintro e w3 ⟨rfl,rfl⟩
  go_wp2_with fail;refine (HL.out _ (kD HG.out H2.out)).mono ?_
  rintro e w4 ⟨rfl,hb4⟩;have H4:=Yh (H2.out.step hb4)
  clear hb4 H2;have H5:Hid (aa W (ae w4.heap.size 39 (aZ o rd rs rt im)::cu W.heap.size rb mb s lv jv os) (w4.alloc (.cells (aZ o rd rs rt im) 39))):=Yh (H4.out.push _ _ rfl)
  generalize nH:w4.alloc (.cells (aZ o rd rs rt im) 39)=w5 at *;clear H4 HC HT HS HL
  go_wp2_with (first|(((with_reducible refine wl_store_new 39 (.tmp 11) (.tmp 57) rfl ?_ w4 (World.heap w4).size 39 zI (aZ o rd rs rt im) ?_ ?_ ?_ ?_ ?_ ?_ ?_ ?_); exact rfl; exact rfl; exact rfl; exact rfl; exact rfl; exact rfl; exact rU _ _ _ _ _; exact Hw _ _ _ _ _);rw [nH])|fail)
  clear nH;generalize w4.heap.size=ib at *;have bi:=H5.out.drew.blk 0 rfl
  have br:=H5.out.drew.blk 1 rfl
  have sl:∀ W',SameL [rb,ib] w5.drew W'→W'.cell? ⟨rb,0,none⟩=some lv:=fun W' h=>h.fst.iy br 0 rfl
  have sd:∀ W',SameL [rb,ib] w5.drew W'→W'.rangeAt ib 0 (aZ o rd rs rt im).toList:=fun W' h=>aI.range (Eq.trans (h.snd ib (List.mem_singleton.2 rfl)) bi)
  clear bi br;refine wp_region_plan_by (SameL [rb,ib]) (later_same _) [(0,false),(1,false),(2,false),(3,false),(4,false),(5,false),(6,true),(7,true),(8,false),(9,false),(10,true)] (by kernel_rfl) (by kernel_rfl) (fun _ d _ _ _ h=>by cases d <;> exact h) ?_
  iterate 5 (refine plan_take (v:=?_) rfl (by kernel_rfl) ?_ ?_;rotate_left;(focus (intro w' hw';try go_simp;try with_reducible rfl));simp only [Act.put,pa1,pa2,pa3])
  refine plan_take (v:=.agg (aZ o rd rs rt im)) rfl (by kernel_rfl) (fun w' hw'=>uU 39 (.tmp 11) rfl ib 0 (aZ o rd rs rt im) rfl (sd w' hw') (rU _ _ _ _ _)) ?_
  simp only [Act.put,pa1,pa2,pa3]
  unfold aZ;clear sl sd;have H6:=Yh H5.out.drew
  clear H5;generalize w5.drew=w6 at *;refine plan_turn rfl (by kernel_rfl) (fun K hK=>?_)
  go_simp
  refine hK _ _ ⟨(iP ((Below.refl _ _).alloc (Nat.le_refl _) _) (H6.out.blk 1 rfl).lt).two (iP ((Below.refl _ _).alloc (Nat.le_refl _) _) (H6.out.blk 0 rfl).lt),?_⟩
  clear hK K;have H7:=Yh (H6.out.step ((Below.refl _ _).alloc (Nat.le_refl _) (.cells #[Value.int .i64 o,.int .i64 rd,.int .i64 rs,.int .i64 rt,.int .i64 im] 39)))
  refine plan_turn rfl (by kernel_rfl) (fun K hK=>?_)
  refine ui _ (.tmp 64) (.tmp 66) _ rfl W.heap.size 39 j0 _ 5 40 Tryz.underlying66 hj0 hy0 hy1 hy2 rfl (by decide) _ s.ins.length (iK s.ins) rfl (H7.out.owns 2 rfl) (w6.heap.size+1) (some ⟨w6.heap.size,0,none⟩) 1 1 (aZ o rd rs rt im).toList rfl (Da _ _ _ rfl) (NS _ _ _ _ _) (by have:=HN.out;unfold maxLen;omega) (by have:=HN.out;omega) (Nat.le_trans H6.out.bel.size (by simp)) (fun v4 w7 hown hgrow hat=>?_)
  have HF:=Yh (H7.out.grow 2 rfl hown hgrow hat)
  clear hown hgrow hat;refine hK _ _ ⟨(fV (H7.out.blk 1 rfl) (HF.out.blk 1 rfl)).two (fV (H7.out.blk 0 rfl) (HF.out.blk 0 rfl)),?_⟩
  clear hK K
  (try simp only [Act.put,pa1,pa2,pa3])
  have b7:=HF.out.blk 1 rfl
  have z7:w7.cell? ⟨rb,0,none⟩=some lv:=b7.cell 0
  have sP:=b7.lt
  have Bf:=fun i=>Blk.frozen b7 i
  clear b7
  iterate 2 (refine plan_take (v:=?_) rfl (by kernel_rfl) ?_ ?_;rotate_left;(focus (intro w' hw';try go_simp;try with_reducible rfl));simp only [Act.put,pa1,pa2,pa3])
  refine nL rfl (by kernel_rfl) (by kernel_rfl) (fun K hK=>?_)
  obtain ⟨A7,q7,rfl⟩:=lK (HF.out.owns 2 rfl)
  go_simp
  refine hK _ _ ?_
  clear hK K;refine aG ?_
  have HE:=HF.out.ay 1 rfl 0 (.slice A7 (s.ins.length+1) q7)
  have HE2:=Yh (HE.drop 1)
  clear HE HF H6 H7
  go_wp2_with fail;go_ret
  refine ⟨rfl,.slice A7 (s.ins.length+1) q7,?_⟩
  have h9:=HE2.out
  unfold cu;simp only [List.length_append,List.length_singleton,NQ]
  exact h9
end
theorem Yf:(Tryz.prog.info? 165).map (fun i=>(i.zero,i.size,i.bytes))=some (some (.agg #[Value.int .i64 0,.int .i64 0,.string ⟨#[]⟩]),3,32):=by kernel_rfl
theorem Yg (a b:Int) (s:ByteArray):∀ v∈(#[Value.int .i64 a,.int .i64 b,.string s]:Array Value).toList,v.oneCell'=true:=by
  intro v hv;simp only [List.mem_cons,List.not_mem_nil,or_false] at hv
  rcases hv with rfl|rfl|rfl <;> rfl
def qL:ByteArray:=⟨#[108,111,111,112,58]⟩
theorem Yi {o:Oper} {a:Act} {w:World} {K:Act→World→Prop} {Q:Exit→Act→World→Prop} (mt:TypeId) {m k v:Operand} {b kv vv:Value} (hop:o.op=Op.mapUpdate mt m k v) (hm:a.eval m=b) (hk:a.eval k=kv) (hv:a.eval v=vv)
    (hr:∃ w',(Instr.mapUpdate mt b kv vv).run Tryz.prog w=.ok () w'∧K (a.put o.dst undef) w'):o.wp Tryz.prog a w K Q:=by
  obtain ⟨w',hr,h⟩:=hr
  unfold Oper.wp;simp [execOp,hop,hm,hk,hv,hr,Result.andThen]
  exact h
section
variable {W w:World} {os:List Oj} {B rb mb:Nat} {s:pQ} {lv jv:Value}
set_option maxRecDepth 100000 in
theorem Yj (n:Int) (hl:s.ins.length≤1000) (hn:s.lab=none) (hg:Gl W) (h:aa W (cu W.heap.size rb mb s lv jv os) w):
    Calls Tryz.prog 34 #[.pointer (some ⟨rb,0,none⟩),.string qL,.int .i64 n] w fun e w'=>e=.returned (.bool true)∧aa W (cu W.heap.size rb mb {s with lab:=some s.ins.length} lv jv os) w':=by
  have HC:=Yh (fun w hg=>xg qL ⟨#[35]⟩ qL.data.toList [] false (by kernel_rfl) (by decide) w hg)
  rw [zb] at HC;have HT:=Yh (fun w=>Tryz.strings_Trim_one qL 32 (by decide) w (by decide))
  rw [show Lib.trimB qL.data.toList 32=qL.data.toList by kernel_rfl,zb] at HT
  have HS:=Yh (fun w=>Tryz.strings_CutSuffix qL ⟨#[58]⟩ w (by decide))
  rw [show (⟨(Lib.trimSuffix qL.data.toList (⟨#[58]⟩:ByteArray).data.toList).toArray⟩:ByteArray)=nI by kernel_rfl,show Lib.hasSuffix qL.data.toList (⟨#[58]⟩:ByteArray).data.toList=true by kernel_rfl] at HS
  have yx:=Yh (fun w=>NN w)
  have hne:qL.toList.isEmpty=false:=by rw [ByteArray.toList_eq];decide
  have H0:=Yh h
  have HG:=Yh hg
  have HN:=Yh (And.intro hl hn)
  have hm:rV s.lab=fun _=>none:=by
    funext k
    unfold rV;rw [hn]
    split <;> rfl
  have hlab:Hu s.lab=0:=by rw [hn];rfl
  have h0:=h
  unfold cu at h0;rw [hm,hlab] at h0;have H0:=Yh h0
  clear h0 h hg hl hn
  dsimp only [cu]
  generalize iK s.ins=xs at *;generalize s.ins.length=il at *;generalize Dz s.jmp=ys at *;generalize NP s.jmp=jn at *;go_enter Tryz.func34,Tryz.ntmps34
  go_wp2_with fail;refine (HC.out _ (kD HG.out H0.out)).mono ?_
  rintro e w1 ⟨rfl,hb1⟩;have H1:=Yh (H0.out.step hb1)
  clear hb1 H0
  go_wp2_with fail;refine (HT.out _).mono ?_
  rintro e w2 ⟨rfl,hw2⟩;have H2:=Yh (show aa W _ w2 by
    rcases hw2 with rfl|rfl
    · exact H1.out
    · exact H1.out.drew)
  clear hw2 H1
  go_wp2_with fail;refine (HS.out _).mono ?_
  rintro e w3 ⟨rfl,rfl⟩;have br:=H2.out.blk 0 rfl
  have c1:w3.cell? ⟨rb,1,none⟩=some (.map (some mb)):=br.cell 1
  have hl3:=br.lt
  have hlk:=(H2.out.smap 2 rfl).yc Tryz.underlying9 Tryz.underlying106 (show (zeroValue 3).run Tryz.prog w3=.ok (.int .i64 0) w3 by kernel_rfl) (k:=nI) (by decide)
  change _=Result.ok (Value.tuple #[Value.int .i64 0,.bool false]) w3 at hlk
  clear br
  go_wp2_with fail;refine (yx.out _).mono ?_
  rintro e w4 ⟨rfl,hb4⟩;have H4:=Yh (H2.out.step hb4)
  clear hb4 H2 hlk c1 hl3;have br:=H4.out.drew.blk 0 rfl
  have c0:∀ W',Ext w4.drew W'→W'.cell? ⟨rb,0,none⟩=some lv:=fun W' h=>(h.cell (p:=⟨rb,0,none⟩) br.lt).trans (br.cell 0)
  have c1:∀ W',Ext w4.drew W'→W'.cell? ⟨rb,1,none⟩=some (.map (some mb)):=fun W' h=>(h.cell (p:=⟨rb,1,none⟩) br.lt).trans (br.cell 1)
  clear br;obtain ⟨A,q,rfl⟩:=lK (H4.out.owns 1 rfl)
  go_wp2_with fail
  refine wp_region_plan [(0, false), (1, false), (2, false), (3, false), (4, false), (5, false), (6, false), (7, false), (8, false), (9, false), (10, true)] (by kernel_rfl) (by kernel_rfl) (fun _ d _ _ _ h => by cases d <;> exact h) ?_
  iterate 10 (refine plan_take (v:=?_) rfl (by kernel_rfl) ?_ ?_;rotate_left;(focus (intro w' hw';try go_simp;try with_reducible rfl));simp only [Act.put,pa1,pa2,pa3])
  refine nL rfl (by kernel_rfl) (by kernel_rfl) (fun K hK=>?_)
  refine Yi 106 (b:=.map (some mb)) (kv:=.string nI) (vv:=.int .i64 (il:Int)) rfl rfl rfl rfl ?_
  obtain ⟨w5,NU,hs5,hg5⟩:=(H4.out.drew.smap 2 rfl).put Tryz.underlying9 Tryz.underlying106 (k:=nI) (.int .i64 (il:Int)) (by decide) (by decide)
  refine ⟨w5,NU,hK _ _ ?_⟩
  clear hK K;have H5:=Yh (H4.out.drew.Kr 2 rfl hs5 hg5).1
  clear NU hs5 hg5 c0 c1 H4;refine aG ?_
  go_wp2_with fail;go_ret
  refine ⟨rfl,?_⟩
  have h6:=H5.out
  have e1:xZ (fun _=>none) nI.data.toList (some (.int .i64 (il:Int)))=rV (some il):=by
    funext k
    unfold xZ rV
    rfl
  rw [e1] at h6;exact h6
end
def NV:In:=⟨16,0,2,0,0⟩
section
variable {W w:World} {os:List Oj} {B rb mb:Nat} {s:pQ} {lv jv:Value}
set_option maxRecDepth 100000 in
theorem Yk (n:Nat) (hn1:n≤1000) (hl:s.ins.length≤1000) (hj:s.jmp=none) (hg:Gl W) (h:aa W (cu W.heap.size rb mb s lv jv os) w):
    Calls Tryz.prog 65 #[.pointer (some ⟨rb,0,none⟩),.string kG,.int .i64 (n:Int)] w fun e w'=>e=.returned (.bool true)∧∃ mV qM,aa W (cu W.heap.size rb mb {s with ins:=s.ins++[NV],jmp:=some (n,s.ins.length) } mV qM os) w':=by
  have HI:=Yh (fun w=>Tryz.strings_LastIndexByte kG 32 (by decide) w)
  rw [show Lib.lastIndexByte kG 32=11 by kernel_rfl] at HI
  have yx:=Yh (fun w=>NN w)
  have HL:=Yh (fun w hg=>Yb w hg)
  have HK:=Yh (fun W=>mD 16 W)
  rw [show ks (kd 16)=⟨#[66]⟩ by kernel_rfl] at HK
  obtain ⟨j0,hj0,hy0,hy1,hy2⟩:=info_parts NR
  obtain ⟨k0,hk0,hx0,hx1,hx2⟩:=info_parts Yf
  have h0:=h
  unfold cu at h0;rw [hj] at h0;have H0:=Yh h0
  have HG:=Yh hg
  have HN:=Yh hl
  clear h0 h hg hl hj
  dsimp only [cu]
  generalize hil:s.ins.length=il at *;have Yl:=Yh hil
  clear hil;have e1:(⟨#[98,110,101,32,114,50,44,32,114,48,44,32,108,111,111,112]⟩:ByteArray).extract 12 16=⟨#[108,111,111,112]⟩:=by decide
  have e2:(⟨#[98,110,101,32,114,50,44,32,114,48,44,32,108,111,111,112]⟩:ByteArray).extract 0 12=⟨#[98,110,101,32,114,50,44,32,114,48,44,32]⟩:=by decide
  have e3:∀ W',(Op.stringOp .add ⟨#[98,110,101,32,114,50,44,32,114,48,44,32]⟩ ⟨#[48]⟩).run Tryz.prog W'=.ok (.string Hr) W':=fun W'=>by
    rw [run_string_add_sum W' _ _ (by decide)]
    rfl
  unfold kG;go_enter Tryz.func65,Tryz.ntmps65
  go_wp2_with fail;refine (HI.out _).mono ?_
  rintro e w1 ⟨rfl,rfl⟩
  go_wp2_with fail;refine (yx.out _).mono ?_
  rintro e w2 ⟨rfl,hb2⟩;have H2:=Yh (H0.out.step hb2)
  clear hb2 H0
  go_wp2_with fail;refine (HL.out _ (kD HG.out H2.out)).mono ?_
  rintro e w4 ⟨rfl,hb4⟩;have H4:=Yh (H2.out.step hb4)
  clear hb4 H2 e2 e3;have h5:=H4.out.push (aZ 16 0 2 0 0) 39 (b:=w4.heap.size) rfl
  have H5:=Yh h5
  clear h5;generalize nH:w4.alloc (.cells (aZ 16 0 2 0 0) 39)=w5 at *;have bi:=H5.out.blk 0 rfl
  have c0:w5.cell? ⟨w4.heap.size,0,none⟩=some (.int .i64 16):=bi.cell 0
  have Ym:=bi.lt
  clear H4 HI HL yx bi
  go_wp2_with (first|(((with_reducible refine wl_store_new 39 (.tmp 8) (.tmp 30) rfl ?_ w4 (World.heap w4).size 39 zI (aZ 16 0 2 0 0) ?_ ?_ ?_ ?_ ?_ ?_ ?_ ?_); exact rfl; exact rfl; exact rfl; exact rfl; exact rfl; exact rfl; exact rU _ _ _ _ _; exact Hw _ _ _ _ _);rw [nH])|fail)
  clear nH;generalize w4.heap.size=ib at *;refine (HK.out _).mono ?_
  rintro e w6 ⟨rfl,rfl⟩;clear c0 Ym;have bi:=H5.out.drew.blk 0 rfl
  have br:=H5.out.drew.blk 1 rfl
  have hr3:=H5.out.owns 4 rfl
  obtain ⟨Aj,qj,rfl⟩:=lK hr3
  obtain ⟨Al,ql,rfl⟩:=lK (H5.out.owns 2 rfl)
  clear hr3;have sj:∀ W',SameL [rb,ib] w5.drew W'→W'.cell? ⟨rb,2,none⟩=some (.slice Aj 0 qj):=fun W' h=>h.fst.iy br 2 rfl
  have sl:∀ W',SameL [rb,ib] w5.drew W'→W'.cell? ⟨rb,0,none⟩=some (.slice Al il ql):=fun W' h=>h.fst.iy br 0 rfl
  clear bi br;have e12:IntKind.i64.wrap 12=12:=by decide
  go_wp2_with fail;refine wp_region_plan_by (SameL [rb,ib]) (later_same _) [(0,false),(1,false),(2,false),(3,false),(4,false),(5,false),(6,false),(7,false),(8,false),(9,false),(10,false),(11,false),(12,false),(13,false),(14,false),(15,false),(16,true),(17,true),(18,false),(19,false),(20,true)] (by kernel_rfl) (by kernel_rfl) (fun _ d _ _ _ h=>by cases d <;> exact h) ?_
  iterate 14 (refine plan_take (v:=?_) rfl (by kernel_rfl) ?_ ?_;rotate_left;(focus (intro w' hw';try go_simp;try with_reducible rfl));simp only [Act.put,pa1,pa2,pa3])
  refine plan_take (v:=.string nI) rfl (by kernel_rfl) (fun w' hw'=>?_) ?_
  · unfold nI
    go_simp
  (try simp only [Act.put,pa1,pa2,pa3])
  iterate 1 (refine plan_take (v:=?_) rfl (by kernel_rfl) ?_ ?_;rotate_left;(focus (intro w' hw';try go_simp;try with_reducible rfl));simp only [Act.put,pa1,pa2,pa3])
  clear sj sl;have H6:=Yh H5.out.drew
  clear H5;generalize w5.drew=w6 at *;refine plan_turn rfl (by kernel_rfl) (fun K hK=>?_)
  go_simp
  refine hK _ _ ⟨(iP ((Below.refl _ _).alloc (Nat.le_refl _) _) (H6.out.blk 1 rfl).lt).two (iP ((Below.refl _ _).alloc (Nat.le_refl _) _) (H6.out.blk 0 rfl).lt),?_⟩
  clear hK K;unfold nI;have H7:=Yh (H6.out.step ((Below.refl _ _).alloc (Nat.le_refl _) (.cells #[Value.int .i64 (n:Int),.int .i64 (il:Int),.string ⟨#[108,111,111,112]⟩] 165)))
  refine plan_turn rfl (by kernel_rfl) (fun K hK=>?_)
  refine ui _ (.tmp 49) (.tmp 61) _ rfl W.heap.size 165 k0 _ 3 32 Tryz.underlying107 hk0 hx0 hx1 hx2 rfl (by decide) _ 0 [] rfl (H7.out.owns 4 rfl) (w6.heap.size+1) (some ⟨w6.heap.size,0,none⟩) 1 1 (#[Value.int .i64 (n:Int),.int .i64 (il:Int),.string ⟨#[108,111,111,112]⟩]:Array Value).toList rfl (Da _ _ _ rfl) (Yg _ _ _) (by unfold maxLen;omega) (by omega) (Nat.le_trans H6.out.bel.size (by simp)) (fun v4 w7 hown hgrow hat=>?_)
  have HF:=Yh (H7.out.grow 4 rfl hown hgrow hat)
  clear hown hgrow hat;refine hK _ _ ⟨(fV (H7.out.blk 1 rfl) (HF.out.blk 1 rfl)).two (fV (H7.out.blk 0 rfl) (HF.out.blk 0 rfl)),?_⟩
  clear hK K
  (try simp only [Act.put,pa1,pa2,pa3])
  have b7:=HF.out.blk 1 rfl
  have z7:w7.cell? ⟨rb,2,none⟩=some (.slice Aj 0 qj):=b7.cell 2
  have sP:=b7.lt
  have Bf:=fun i=>Blk.frozen b7 i
  clear b7
  iterate 2 (refine plan_take (v:=?_) rfl (by kernel_rfl) ?_ ?_;rotate_left;(focus (intro w' hw';try go_simp;try with_reducible rfl));simp only [Act.put,pa1,pa2,pa3])
  refine nL rfl (by kernel_rfl) (by kernel_rfl) (fun K hK=>?_)
  obtain ⟨A7,q7,rfl⟩:=lK (HF.out.owns 4 rfl)
  go_simp
  refine hK _ _ ?_
  clear hK K;refine aG ?_
  have H8:Hid (aa W (ae ib 39 (aZ 16 0 2 0 0)::ae rb 109 #[.slice Al il ql,.map (some mb),.slice A7 1 q7]::aS W.heap.size 39 5 il (.slice Al il ql) (iK s.ins)::qz 9 (.int .i64 0) mb (Hu s.lab) (rV s.lab)::aS W.heap.size 165 3 1 (.slice A7 1 q7) [.int .i64 (n:Int),.int .i64 (il:Int),.string nI]::os) (w7.setCell ⟨rb,2,none⟩ (.slice A7 (0+1) q7))):=Yh (HF.out.ay 1 rfl 2 (.slice A7 (0+1) q7))
  clear HF H6 H7 z7 sP Bf;generalize w7.setCell ⟨rb,2,none⟩ (.slice A7 (0+1) q7)=w8 at *;have bi:=H8.out.drew.blk 0 rfl
  have br:=H8.out.drew.blk 1 rfl
  have sl:∀ W',SameL [rb,ib] w8.drew W'→W'.cell? ⟨rb,0,none⟩=some (.slice Al il ql):=fun W' h=>h.fst.iy br 0 rfl
  have sd:∀ W',SameL [rb,ib] w8.drew W'→W'.rangeAt ib 0 (aZ 16 0 2 0 0).toList:=fun W' h=>aI.range (Eq.trans (h.snd ib (List.mem_singleton.2 rfl)) bi)
  clear bi br
  go_wp2_with fail;refine wp_region_plan_by (SameL [rb,ib]) (later_same _) [(0,false),(1,false),(2,false),(3,false),(4,false),(5,false),(6,true),(7,true),(8,false),(9,false),(10,true)] (by kernel_rfl) (by kernel_rfl) (fun _ d _ _ _ h=>by cases d <;> exact h) ?_
  iterate 5 (refine plan_take (v:=?_) rfl (by kernel_rfl) ?_ ?_;rotate_left;(focus (intro w' hw';try go_simp;try with_reducible rfl));simp only [Act.put,pa1,pa2,pa3])
  refine plan_take (v:=.agg (aZ 16 0 2 0 0)) rfl (by kernel_rfl) (fun w' hw'=>uU 39 (.tmp 8) rfl ib 0 (aZ 16 0 2 0 0) rfl (sd w' hw') (rU _ _ _ _ _)) ?_
  simp only [Act.put,pa1,pa2,pa3]
  unfold aZ;clear sl sd;have H9:=Yh H8.out.drew
  clear H8;generalize w8.drew=w9 at *;refine plan_turn rfl (by kernel_rfl) (fun K hK=>?_)
  go_simp
  refine hK _ _ ⟨(iP ((Below.refl _ _).alloc (Nat.le_refl _) _) (H9.out.blk 1 rfl).lt).two (iP ((Below.refl _ _).alloc (Nat.le_refl _) _) (H9.out.blk 0 rfl).lt),?_⟩
  clear hK K;have HA:=Yh (H9.out.step ((Below.refl _ _).alloc (Nat.le_refl _) (.cells #[Value.int .i64 16,.int .i64 0,.int .i64 2,.int .i64 0,.int .i64 0] 39)))
  refine plan_turn rfl (by kernel_rfl) (fun K hK=>?_)
  refine ui _ (.tmp 69) (.tmp 71) _ rfl W.heap.size 39 j0 _ 5 40 Tryz.underlying66 hj0 hy0 hy1 hy2 rfl (by decide) _ il (iK s.ins) rfl (HA.out.owns 2 rfl) (w9.heap.size+1) (some ⟨w9.heap.size,0,none⟩) 1 1 (aZ 16 0 2 0 0).toList rfl (Da _ _ _ rfl) (NS _ _ _ _ _) (by have:=HN.out;unfold maxLen;omega) (by have:=HN.out;omega) (Nat.le_trans H9.out.bel.size (by simp)) (fun v4 wb hown hgrow hat=>?_)
  have HF:=Yh (HA.out.grow 2 rfl hown hgrow hat)
  clear hown hgrow hat;refine hK _ _ ⟨(fV (HA.out.blk 1 rfl) (HF.out.blk 1 rfl)).two (fV (HA.out.blk 0 rfl) (HF.out.blk 0 rfl)),?_⟩
  clear hK K
  (try simp only [Act.put,pa1,pa2,pa3])
  have b7:=HF.out.blk 1 rfl
  have z7:wb.cell? ⟨rb,0,none⟩=some (.slice Al il ql):=b7.cell 0
  have sP:=b7.lt
  have Bf:=fun i=>Blk.frozen b7 i
  clear b7
  iterate 2 (refine plan_take (v:=?_) rfl (by kernel_rfl) ?_ ?_;rotate_left;(focus (intro w' hw';try go_simp;try with_reducible rfl));simp only [Act.put,pa1,pa2,pa3])
  refine nL rfl (by kernel_rfl) (by kernel_rfl) (fun K hK=>?_)
  obtain ⟨Ab,qb,rfl⟩:=lK (HF.out.owns 2 rfl)
  go_simp
  refine hK _ _ ?_
  clear hK K;refine aG ?_
  have HE:=HF.out.ay 1 rfl 0 (.slice Ab (il+1) qb)
  have HE2:=Yh (HE.drop 1)
  clear HE HF H9 HA
  go_wp2_with fail;go_ret
  refine ⟨rfl,.slice Ab (il+1) qb,.slice A7 1 q7,?_⟩
  have h9:=HE2.out
  simp only [NQ,List.length_append,List.length_singleton,Yl.out]
  exact h9
theorem Yn (n:Nat) (hn1:n≤1000) (hl:s.ins.length≤1000) (hj:s.jmp=none) (hg:Gl W) (h:aa W (cu W.heap.size rb mb s lv jv os) w):
    Calls Tryz.prog 34 #[.pointer (some ⟨rb,0,none⟩),.string kG,.int .i64 (n:Int)] w fun e w'=>e=.returned (.bool true)∧∃ mV qM,aa W (cu W.heap.size rb mb {s with ins:=s.ins++[NV],jmp:=some (n,s.ins.length) } mV qM os) w':=by
  have HC:=Yh (fun w hg=>xg kG ⟨#[35]⟩ kG.data.toList [] false (by kernel_rfl) (by decide) w hg)
  rw [zb] at HC;have HT:=Yh (fun w=>Tryz.strings_Trim_one kG 32 (by decide) w (by decide))
  rw [show Lib.trimB kG.data.toList 32=kG.data.toList by kernel_rfl,zb] at HT
  have HS:=Yh (fun w=>Tryz.strings_CutSuffix kG ⟨#[58]⟩ w (by decide))
  rw [show Lib.hasSuffix kG.data.toList (⟨#[58]⟩:ByteArray).data.toList=false by kernel_rfl] at HS
  have HL:=Yh (fun w hg=>Yc w hg)
  have hne:kG.toList.isEmpty=false:=by rw [ByteArray.toList_eq];decide
  have HN:=Yh (fun w (h:aa W (cu W.heap.size rb mb s lv jv os) w)=>Yk n hn1 hl hj hg h)
  have H0:=Yh h
  have HG:=Yh hg
  clear h hg hl hj hn1;generalize (⟨(Lib.trimSuffix kG.data.toList (⟨#[58]⟩:ByteArray).data.toList).toArray⟩:ByteArray)=t2 at *;generalize kG=bt at *;go_enter Tryz.func34,Tryz.ntmps34
  go_wp2_with fail;refine (HC.out _ (kD HG.out H0.out)).mono ?_
  rintro e w1 ⟨rfl,hb1⟩;have H1:=Yh (H0.out.step hb1)
  clear hb1 H0
  go_wp2_with fail;refine (HT.out _).mono ?_
  rintro e w2 ⟨rfl,hw2⟩;have H2:Hid (aa W (cu W.heap.size rb mb s lv jv os) w2):=Yh (by
    rcases hw2 with rfl|rfl
    · exact H1.out
    · exact H1.out.drew)
  clear hw2 H1
  go_wp2_with fail;refine (HS.out _).mono ?_
  rintro e w3 ⟨rfl,rfl⟩
  go_wp2_with fail;refine (HL.out _ (kD HG.out H2.out)).mono ?_
  rintro e w4 ⟨rfl,hb4⟩;have H4:=Yh (H2.out.step hb4)
  clear hb4 H2;have H5:Hid (aa W (cu W.heap.size rb mb s lv jv os) (w4.alloc (.cells zI 39))):=Yh (H4.out.step ((Below.refl _ _).alloc (Nat.le_refl _) _))
  generalize nH:w4.alloc (.cells zI 39)=w5 at *;clear H4 HC HT HS HL
  go_wp2_with (first|(((with_reducible refine wl_store_new 39 (.tmp 11) (.tmp 57) rfl ?_ w4 (World.heap w4).size 39 zI zI ?_ ?_ ?_ ?_ ?_ ?_ ?_ ?_); exact rfl; exact rfl; exact rfl; exact rfl; exact rfl; exact rfl; exact rU 0 0 0 0 0; exact Hw 0 0 0 0 0);rw [nH])|fail)
  clear nH;refine (HN.out _ H5.out).mono ?_
  rintro e w6 ⟨rfl,h6⟩;have H6:=Yh h6
  clear h6
  go_wp2_with fail;go_ret
  exact ⟨rfl,H6.out⟩
end
section
variable {w:World} {base s n:Nat} {e:TypeId} {v:Value} {xs:List Value}
theorem Yo {g cap j:Nat} {u:Value} (h:w.ownsRow base e s (.slice (some ⟨g,0,none⟩) n cap) n xs):(w.setCell ⟨g,j,none⟩ u).ownsRow base e s (.slice (some ⟨g,0,none⟩) n cap) n (xs.set j u):=by
  refine ⟨by rw [List.length_set];exact h.1,?_⟩
  rcases h.2 with ⟨h',_⟩|⟨g',cap',cur,h',hb,hg,h1,h2,h3,h4⟩
  · cases h'
  · simp only [Value.slice.injEq,Option.some.injEq,Addr.mk.injEq,and_true,true_and] at h'
    obtain ⟨rfl,rfl⟩:=h'
    refine .inr ⟨g,cap,cur.setIfInBounds j u,rfl,hb,aI.ay hg j u,h1,h2,by simpa using h3,?_⟩
    rw [Array.toList_setIfInBounds,List.take_set,h4]
theorem ze (h:w.ownsRow base e s v n xs) (hn:n≠0):∃ g cap,v=.slice (some ⟨g,0,none⟩) n cap∧n≤cap∧g<w.heap.size∧(∀ j u,xs[j]? = some u→w.cell? ⟨g,j,none⟩=some u)∧∀ i,w.frozen? ⟨g,i,none⟩=false:=by
  rcases h.2 with ⟨_,h0⟩|⟨g,cap,cur,rfl,_,hg,h5,_,_,h4⟩
  · exact absurd h0 hn
  · refine ⟨g,cap,rfl,h5,(h.lt g rfl).2,fun j u hu=>?_,fun i=>Blk.frozen hg i⟩
    refine (aI.cell hg j).trans ?_
    have hj:=(List.getElem?_eq_some_iff.1 hu).1
    rw [← Array.getElem?_toList,← hu,← h4];rw [← h4,List.length_take] at hj;rw [List.getElem?_take,if_pos (by omega)]
end
theorem aa.Yp {W w:World} {os:List Oj} {base n s:Nat} {e:TypeId} {xs:List Value} (h:aa W os w) (i:Nat) {g cap:Nat} (hi:os[i]? = some (aS base e s n (.slice (some ⟨g,0,none⟩) n cap) xs)) (j:Nat) (u:Value):
    aa W (os.set i (aS base e s n (.slice (some ⟨g,0,none⟩) n cap) (xs.set j u))) (w.setCell ⟨g,j,none⟩ u):=
  h.grow i hi (Yo (h.owns i hi)) (((az.refl (fun b=>b=g) w).setCell (.inl rfl) u).L6 (fun i hi=>by rw [hi];rfl)) (.inl rfl)
def qN (l:List In) (j:Nat) (ah:Int):List In:=match l[j]? with
  | some x=>l.set j {x with ah:=ah}
  | none=>l
theorem zg (x:In):x.cs.length=5:=rfl
theorem NW:∀ (l:List In) (j:Nat) (ah:Int),(iK l).set (5*j+4) (.int .i64 ah)=iK (qN l j ah)
  | [],j,ah=>by unfold qN;simp [iK]
  | x::r,0,ah=>by
    show (x.cs++iK r).set 4 _=({x with ah:=ah}:In).cs++iK r
    rw [List.set_append_left _ _ (by rw [zg];decide)]
    rfl
  | x::r,j+1,ah=>by
    have ih:=NW r j ah
    have e:qN (x::r) (j+1) ah=x::qN r j ah:=by
      unfold qN;rw [List.getElem?_cons_succ]
      cases r[j]? with
      | none=>rfl
      | some y=>rfl
    rw [e];show (x.cs++iK r).set (5*(j+1)+4) _=x.cs++iK (qN r j ah)
    rw [List.set_append_right _ _ (by rw [zg];omega),zg,show 5*(j+1)+4-5=5*j+4 by omega,ih]
theorem Yq (l:List In) (j:Nat) (ah:Int):(qN l j ah).length=l.length:=by
  unfold qN
  split
  · rw [List.length_set]
  · rfl
section
variable {W w:World} {os:List Oj} {B rb mb:Nat} {s:pQ} {lv jv:Value}
set_option maxRecDepth 100000 in
theorem Yr (hj:s.jmp=none) (h:aa W (cu W.heap.size rb mb s lv jv os) w):
    Calls Tryz.prog 35 #[.pointer (some ⟨rb,0,none⟩)] w fun e w'=>e=.returned (.int .i64 0)∧aa W (cu W.heap.size rb mb s lv jv os) w':=by
  have hr:=h.owns 3 rfl
  rw [hj] at hr;obtain ⟨A,q,hv⟩:=lK hr
  have bc:=h.blk 0 rfl
  rw [hv] at bc;have c2:w.cell? ⟨rb,2,none⟩=some (.slice A 0 q):=bc.cell 2
  have hl:=bc.lt
  have H:=Yh h
  clear h bc hv hr hj;go_enter Tryz.func35,Tryz.ntmps35
  go_wp2_with fail;refine wp_loop_rounds 1 ?_
  rw [rounds_succ]
  go_wp2_with fail;go_ret
  exact ⟨rfl,H.out⟩
def Yt:Array Value:=#[.int .i64 0,.int .i64 0,.string ⟨#[]⟩]
def rW (a b:Int):Array Value:=#[.int .i64 a,.int .i64 b,.string nI]
theorem NY (a b:Int):dO Tryz.prog 165 (rW a b).size=true:=by
  show dO Tryz.prog 165 3=true
  kernel_rfl
theorem Yu (a b:Int):(rW a b).all (·.oneCell')=true:=by simp [rW,Value.oneCell']
set_option maxRecDepth 100000 in
theorem Yv {a b tg:Nat} (hj:s.jmp=some (a,b)) (hlab:s.lab=some tg) (hb:b<s.ins.length) (ha:a≤1000) (hto:tg≤1000) (hlen:s.ins.length≤1000) (h:aa W (cu W.heap.size rb mb s lv jv os) w):
    Calls Tryz.prog 35 #[.pointer (some ⟨rb,0,none⟩)] w fun e w'=>e=.returned (.int .i64 0)∧aa W (cu W.heap.size rb mb {s with ins:=qN s.ins b ((tg:Int)-(b:Int)) } lv jv os) w':=by
  have hr:=h.owns 3 rfl
  rw [hj] at hr;obtain ⟨jg,jq,hv,_,hjl,hjc,_⟩:=ze hr Nat.one_ne_zero
  obtain ⟨lg,lq,hlv,hlq,hll,hlc,hlf⟩:=ze (h.owns 1 rfl) (by omega)
  subst hv;subst hlv;have bc:=h.blk 0 rfl
  have c2:w.cell? ⟨rb,2,none⟩=some (.slice (some ⟨jg,0,none⟩) 1 jq):=bc.cell 2
  have NZ:w.rangeAt jg 0 (rW (a:Int) (b:Int)).toList:=fun j u hu=>hjc _ u (by rw [Nat.zero_add];exact hu)
  have hl:=bc.lt
  have h0:=h
  unfold cu at h0;rw [hj,hlab] at h0;have H:Hid (aa W (ae w.heap.size 165 (rW (a:Int) (b:Int))::ae rb 109 #[.slice (some ⟨lg,0,none⟩) s.ins.length lq,.map (some mb),.slice (some ⟨jg,0,none⟩) 1 jq]::aS W.heap.size 39 5 s.ins.length (.slice (some ⟨lg,0,none⟩) s.ins.length lq) (iK s.ins)::qz 9 (.int .i64 0) mb 1 (rV (some tg))::aS W.heap.size 165 3 1 (.slice (some ⟨jg,0,none⟩) 1 jq) (Dz (some (a,b)))::os) (w.alloc (.cells (rW (a:Int) (b:Int)) 165))):=Yh (h0.push _ _ rfl)
  have HJ:=Yh (And.intro hj hlab)
  have e1:wrap64 ((tg:Int)-(b:Int))=(tg:Int)-(b:Int):=IntWalk.wrap64_in _ (by omega)
  have e2:decide ((tg:Int)-(b:Int) < -2048)=false:=by rw [decide_eq_false_iff_not];omega
  have e3:decide ((2048:Int)≤(tg:Int)-(b:Int))=false:=by rw [decide_eq_false_iff_not];omega
  have e4:(0:Int)≤(b:Int):=by omega
  have e5:(b:Int)<(s.ins.length:Int):=by omega
  have N7:(iK s.ins).length=s.ins.length*5:=(h.owns 1 rfl).1
  have tV:=Yh (And.intro N7 hb)
  clear h h0 bc hr hj hjc hlab hlc hjl N7 hb
  dsimp only [cu]
  simp only [Yq]
  generalize s.ins.length=il at *;generalize hw1:w.alloc (.cells (rW (a:Int) (b:Int)) 165)=w1 at *;have bl:=H.out.drew.blk 0 rfl
  have br:=H.out.drew.blk 1 rfl
  have s1:∀ W',Ext w1.drew W'→W'.cell? ⟨rb,1,none⟩=some (.map (some mb)):=fun W' h=>(h.cell (p:=⟨rb,1,none⟩) br.lt).trans (br.cell 1)
  have s2:∀ W',Ext w1.drew W'→W'.cell? ⟨w.heap.size,2,none⟩=some (.string nI):=fun W' h=>(h.cell (p:=⟨w.heap.size,2,none⟩) bl.lt).trans (bl.cell 2)
  have s3:∀ W',Ext w1.drew W'→(Instr.lookup 106 (.map (some mb)) (.string nI) true).run Tryz.prog W'=.ok (Value.tuple #[Value.int .i64 (tg:Int),.bool true]) W':=fun W' h=>((H.out.drew.step h).smap 3 rfl).yc Tryz.underlying9 Tryz.underlying106 (show (zeroValue 3).run Tryz.prog W'=.ok (.int .i64 0) W' by kernel_rfl) (k:=nI) (by decide)
  clear bl br;go_enter Tryz.func35,Tryz.ntmps35
  go_wp2_with fail;refine wp_loop_rounds 2 ?_
  rw [rounds_succ]
  go_wp2_with (first|((with_reducible refine wl_load 165 (.tmp 15) rfl ?_ jg 0 (rW (a:Int) (b:Int)) ?_ NZ ?_ ?_); exact rfl; exact rfl; exact NY _ _)|(((with_reducible refine wl_store_new 165 (.tmp 4) (.tmp 16) rfl ?_ w (World.heap w).size 165 Yt (rW (a:Int) (b:Int)) ?_ ?_ ?_ ?_ ?_ ?_ ?_ ?_); exact rfl; exact rfl; exact rfl; exact rfl; exact rfl; exact rfl; exact NY _ _; exact Yu _ _);rw [hw1])|fail)
  (try simp only [Act.put])
  refine wp_region_plan [(0, false), (1, false), (2, false), (3, false), (4, false), (5, false), (6, false), (7, false), (8, false), (9, false), (10, false), (11, false)] (by kernel_rfl) (by kernel_rfl) (fun _ d _ _ _ h => by cases d <;> exact h) ?_
  iterate 12 (refine plan_take (v:=?_) rfl (by kernel_rfl) ?_ ?_;rotate_left;(focus (intro w' hw';try go_simp;try with_reducible rfl));simp only [Act.put,pa1,pa2,pa3])
  refine aG ?_
  clear s1 s2 s3 NZ;have H2:=Yh H.out.drew
  clear H hw1;generalize w.heap.size=jb at *;generalize w1.drew=w2 at *;have bl:=H2.out.blk 0 rfl
  have br:=H2.out.blk 1 rfl
  have c1:w2.cell? ⟨jb,1,none⟩=some (.int .i64 (b:Int)):=bl.cell 1
  have hlj:=bl.lt
  have s0:∀ W',Ext w2.drew W'→W'.cell? ⟨rb,0,none⟩=some (.slice (some ⟨lg,0,none⟩) il lq):=fun W' h=>(h.cell (p:=⟨rb,0,none⟩) br.lt).trans (br.cell 0)
  have s1:∀ W',Ext w2.drew W'→W'.cell? ⟨jb,1,none⟩=some (.int .i64 (b:Int)):=fun W' h=>(h.cell (p:=⟨jb,1,none⟩) bl.lt).trans (bl.cell 1)
  clear bl br
  go_wp2_with fail;clear c1
  refine wp_region_plan [(0, false), (1, false), (2, false), (3, false), (4, false), (5, false), (6, false), (7, false), (8, false), (9, true)] (by kernel_rfl) (by kernel_rfl) (fun _ d _ _ _ h => by cases d <;> exact h) ?_
  iterate 9 (refine plan_take (v:=?_) rfl (by kernel_rfl) ?_ ?_;rotate_left;(focus (intro w' hw';try go_simp;try with_reducible rfl));simp only [Act.put,pa1,pa2,pa3])
  refine nL rfl (by kernel_rfl) (by kernel_rfl) (fun K hK=>?_)
  have ho:=H2.out.drew.owns 2 rfl
  obtain ⟨lg',lq',hv',_,Yw,N8,Yx⟩:=ze ho (by have:=tV.out.2;omega)
  simp only [Value.slice.injEq,Option.some.injEq,Addr.mk.injEq,and_true,true_and] at hv'
  obtain ⟨rfl,rfl⟩:=hv'
  have hcl:∃ u,w2.drew.cell? ⟨lg,b*5+4,none⟩=some u:=⟨_,N8 (b*5+4) _ (List.getElem?_eq_getElem (by have:=tV.out;omega))⟩
  obtain ⟨u,hcl⟩:=hcl
  clear ho N8 hlf s0 s1
  go_simp
  refine hK _ _ ?_
  clear hK K;refine aG ?_
  have H3:Hid (aa W (ae jb 165 (rW (a:Int) (b:Int))::ae rb 109 #[.slice (some ⟨lg,0,none⟩) il lq,.map (some mb),.slice (some ⟨jg,0,none⟩) 1 jq]::aS W.heap.size 39 5 il (.slice (some ⟨lg,0,none⟩) il lq) (iK (qN s.ins b ((tg:Int)-(b:Int))))::qz 9 (.int .i64 0) mb 1 (rV (some tg))::aS W.heap.size 165 3 1 (.slice (some ⟨jg,0,none⟩) 1 jq) (Dz (some (a,b)))::os) (w2.setCell ⟨lg,b*5+4,none⟩ (.int .i64 ((tg:Int)-(b:Int)))).drew):=Yh (by
    have h:=H2.out.drew.Yp 2 rfl (b*5+4) (.int .i64 ((tg:Int)-(b:Int)))
    rw [show (iK s.ins).set (b*5+4) (.int .i64 ((tg:Int)-(b:Int)))=iK (qN s.ins b ((tg:Int)-(b:Int))) by rw [Nat.mul_comm b 5];exact NW _ _ _] at h
    exact h)
  clear H2 hcl Yw Yx
  go_wp2_with fail;rw [rounds_succ]
  go_wp2_with fail;go_ret
  refine ⟨rfl,?_⟩
  have h4:=H3.out.drop 1
  rw [← HJ.out.1] at h4;have e6:=HJ.out.2
  rw [e6];rw [HJ.out.1] at h4;rw [HJ.out.1];exact h4
end
theorem Yy:rV none=fun _=>none:=by
  funext k
  unfold rV
  split <;> rfl
section
variable {W w:World} {os:List Oj}
set_option maxRecDepth 100000 in
theorem N9 (s:ByteArray) (ls:List ByteArray) (S:Nat→pQ) (F:pQ) (hs:s.size≤60000) (hsp:Lib.splitB ⟨#[10]⟩ 0 (Lib.countB s ⟨#[10]⟩) s=ls) (hn:Lib.countB s ⟨#[10]⟩+1=ls.length) (hn2:ls.length≤100) (h0:S 0=⟨[],none,none⟩)
    (HL:Hid (∀ i,i<ls.length→∀ (w:World) (os:List Oj) (rb mb:Nat) (lv jv:Value),aa W (cu W.heap.size rb mb (S i) lv jv os) w→Calls Tryz.prog 34 #[.pointer (some ⟨rb,0,none⟩),.string (ls.getD i ⟨#[]⟩),.int .i64 ((i+1:Nat):Int)] w fun e w'=>e=.returned (.bool true)∧∃ mV qM,aa W (cu W.heap.size rb mb (S (i+1)) mV qM os) w'))
    (HK:Hid (∀ (w:World) (os:List Oj) (rb mb:Nat) (lv jv:Value),aa W (cu W.heap.size rb mb (S ls.length) lv jv os) w→Calls Tryz.prog 35 #[.pointer (some ⟨rb,0,none⟩)] w fun e w'=>e=.returned (.int .i64 0)∧aa W (cu W.heap.size rb mb F lv jv os) w'))
    (hF:F.ins.length≤1000) (hg:Gl W) (h:aa W os w):
    Calls Tryz.prog 20 #[.string s] w fun e w'=>∃ rb mb lv jv,e=.returned (.tuple #[lv,.int .i64 0,.int .i64 0])∧aa W (cu W.heap.size rb mb F lv jv os) w':=by
  have e1:decide (65536<(s.size:Int))=false:=by rw [decide_eq_false_iff_not];omega
  have HS:Hid (∀ w,Gl w→Calls Tryz.prog 33 #[.string s,.string ⟨#[10]⟩] w fun e w'=>e=.returned (.slice (some ⟨w.heap.size,0,none⟩) ls.length ls.length)∧w'=w.alloc (.cells (ls.map Value.string).toArray 9)):=Yh fun w hg=>by
    obtain ⟨m,hm⟩:=hg.max
    have:=Tryz.strings_Split s ⟨#[10]⟩ m w (by omega) hm (by decide)
    rw [hsp,hn] at this;exact this
  have HG:=Yh hg
  have zC:=Yh hn2
  have HF:=Yh hF
  have h1:=h.Kt 9 (.int .i64 0)
  have h2:=h1.push #[Value.slice none 0 0,.map (some w.heap.size),.slice none 0 0] 109 (b:=w.heap.size+1) (by simp)
  have h3:=(h2.row0 W.heap.size 39 5).row0 W.heap.size 165 3
  have H1:Hid (aa W (cu W.heap.size (w.heap.size+1) w.heap.size (S 0) (.slice none 0 0) (.slice none 0 0) os) ((w.alloc (.map #[] 0)).alloc (.cells #[Value.slice none 0 0,.map (some w.heap.size),.slice none 0 0] 109))):=Yh (by
    rw [h0];unfold cu
    dsimp only
    rw [Yy];exact aa.permA (xs:=[aS W.heap.size 165 3 0 (.slice none 0 0) [],aS W.heap.size 39 5 0 (.slice none 0 0) [],ae (w.heap.size+1) 109 #[Value.slice none 0 0,.map (some w.heap.size),.slice none 0 0],qz 9 (.int .i64 0) w.heap.size 0 (fun _=>none)]) [2,1,3,0] h3 (by decide) (show ∀ i,i∈[2,1,3,0]→i<4 by decide))
  have hmm:=@run_makeMap Tryz.prog
  clear h h1 h2 h3 hs hsp hn h0 hF hn2 hg;go_enter Tryz.func20,Tryz.ntmps20
  go_wp2_with fail;refine (HS.out _ (kD HG.out H1.out)).mono ?_
  rintro e w2 ⟨rfl,hw2⟩;have H2:Hid (aa W (cu W.heap.size (w.heap.size+1) w.heap.size (S 0) (.slice none 0 0) (.slice none 0 0) (os++[ae ((w.alloc (.map #[] 0)).alloc (.cells #[Value.slice none 0 0,.map (some w.heap.size),.slice none 0 0] 109)).heap.size 9 (ls.map Value.string).toArray])) w2):=Yh (by rw [hw2];exact H1.out.kg _ _)
  clear HS H1 hw2 e1;generalize ((w.alloc (.map #[] 0)).alloc (.cells #[Value.slice none 0 0,.map (some w.heap.size),.slice none 0 0] 109)).heap.size=lb at *;generalize w.heap.size=mb at *;generalize mb+1=rb at *
  go_wp2_with fail
  go_loopw [18,19,20,21,22,23,24,25,26,27,28,29,30,31,6,7,2,3,4] (fun i _ _ _ _ _ _ _ _ _ _ _ _ _ _ _ r2 r3 r4 wr=>∃ (k:Nat) (lv jv:Value),k≤ls.length∧i=.int .i64 (k:Int)∧aa W (cu W.heap.size rb mb (S k) lv jv (os++[ae lb 9 (ls.map Value.string).toArray])) wr) (fun i _ _ _ _ _ _ _ _ _ _ _ _ _ _ _ _ _ _ _=>ls.length-(intOf i).toNat)
  case atStart=>exact ⟨0,_,_,Nat.zero_le _,rfl,H2.out⟩
  clear H2
  case round =>
    obtain ⟨k,lv,jv,hk,rfl,hO⟩:=hrel
    have HO:=Yh hO
    by_cases hkl:k<ls.length
    · have mU:=Yh hkl
      have hki:(k:Int)<(ls.length:Int):=by omega
      have hk0:(0:Int)≤(k:Int):=by omega
      have bc:Blk wr lb 9 (ls.map Value.string).toArray:=aa.dh (os:=cu W.heap.size rb mb (S k) lv jv os) hO
      have hc:wr.cell? ⟨lb,((k:Int)).toNat,none⟩=some (.string (ls.getD k ⟨#[]⟩)):=by
        refine (bc.cell k).trans ?_
        rw [List.getElem?_toArray,List.getElem?_map,List.getElem?_eq_getElem hkl,List.getD_eq_getElem?_getD,List.getElem?_eq_getElem hkl]
        rfl
      have hlb:=bc.lt
      have e2:wrap64 ((k:Int)+1)=((k+1:Nat):Int):=by
        have:=zC.out
        rw [IntWalk.wrap64_in _ (by omega)]
        omega
      have Yz:=Yh (HL.out k hkl wr _ rb mb lv jv hO)
      clear hO hkl bc;generalize ls.getD k ⟨#[]⟩=ln at *;generalize hk1:((k+1:Nat):Int)=k1 at *;generalize eB:(k:Int)=ki at *;have bZ:=Yh (And.intro eB hk1)
      clear eB hk1
      go_wp2_with fail;refine Yz.out.mono ?_
      rintro e w4 ⟨rfl,mV,qM,h4⟩;have H4:=Yh h4
      clear h4 hc hlb
      go_wp2_with fail
      go_roundw
      case rel=>exact ⟨k+1,mV,qM,mU.out,by rw [bZ.out.2,← e2],H4.out⟩
      case measure =>
        have e9:(intOf (Value.int IntKind.i64 (wrap64 (ki+1)))).toNat=k+1:=by
          rw [e2,← bZ.out.2]
          rfl
        have e10:(intOf (Value.int IntKind.i64 ki)).toNat=k:=by
          rw [← bZ.out.1]
          rfl
        have h1:=mU.out
        rw [e9,e10];exact Nat.sub_lt_sub_left h1 (Nat.lt_succ_self k)
    · obtain rfl:k=ls.length:=by omega
      have tX:=Yh (HK.out wr _ rb mb lv jv HO.out)
      clear hO hkl hk
      go_wp2_with fail;refine tX.out.mono ?_
      rintro e w4 ⟨rfl,h4⟩;have H4:=Yh h4
      have br:=h4.blk 0 rfl
      obtain ⟨A,q,hlv⟩:=lK (h4.owns 1 rfl)
      rw [hlv] at br;have c0:w4.cell? ⟨rb,0,none⟩=some (.slice A F.ins.length q):=br.cell 0
      have hl4:=br.lt
      have e3:decide ((16384:Int)<(F.ins.length:Int))=false:=by rw [decide_eq_false_iff_not];have:=HF.out;omega
      clear h4 br
      go_wp2_with fail;refine bodyPost_ret (v:=.tuple #[.slice A F.ins.length q,.int .i64 0,.int .i64 0]) (by simp [results,Tryz.results20,go_sem]) rfl ?_
      refine ⟨rb,mb,lv,jv,by rw [hlv],?_⟩
      exact aa.ja (os:=cu W.heap.size rb mb F lv jv os) H4.out
end
end Go.Proofs.YtnebdlchogmneaaGreatDoor
namespace Go.Proofs.YtnebdlchogmneaaGreatDoor
open Go.ChangeShapes Go.WideShapes Go.RowKit
theorem of_laid {W:World} (h:laidMetH Tryz.prog Rows.wholeAloneRow.laid W∧W.ShapedOpen Tryz.prog):Gl W:=by
  obtain ⟨hl,hs⟩:=h
  have hl2:laidMet Tryz.prog Rows.wholeAloneRow.laid W:=by
    rw [MakeChecks.laidMetH_plain _ _ _ (by kernel_rfl)] at hl
    exact hl
  refine ⟨?_,?_,?_,?_⟩
  · exact cell_of_shapedOpen_int (t:=3) (zero:=#[.int .i64 0]) hs (of_decide_eq_true (by kernel_rfl)) (by kernel_rfl) rfl (by kernel_rfl) (by kernel_rfl) Tryz.underlying3
  · exact Lib.tabIs_of_head (g:=1) (t:=363) (e:=5) (n:=256) (rest:=(Rows.wholeAloneRow.laid.drop 8)) (by kernel_rfl) (by kernel_rfl) Tryz.underlying363 Tryz.underlying5 (by kernel_rfl) (by kernel_rfl) (by
      have h:=De 7 hl2
      have e : Rows.wholeAloneRow.laid.drop 7 = ("strings.asciiSpace", Lib.tabData .u8 Lib.asciiSpaceTab) :: Rows.wholeAloneRow.laid.drop 8 := by kernel_rfl
      rw [e] at h;exact h)
  · exact Lib.tabIs_of_head (g:=8) (t:=507) (e:=40) (n:=20) (rest:=(Rows.wholeAloneRow.laid.drop 3)) (by kernel_rfl) (by kernel_rfl) Tryz.underlying507 Tryz.underlying40 (by kernel_rfl) (by kernel_rfl) (De 2 hl2)
  · obtain ⟨te,pe,hc⟩:=WI (g:=5) (t:=367) (rest:=(Rows.wholeAloneRow.laid.drop 6)) (by kernel_rfl) (by kernel_rfl) Tryz.underlying367 (De 5 hl2)
    exact ⟨_,hc,.inr ⟨te,pe,rfl⟩⟩
end Go.Proofs.YtnebdlchogmneaaGreatDoor
namespace Go.Proofs.YtnebdlchogmneaaGreatDoor
open Go.RowKit Go.Maps
def pR:Nat→Nat→List UInt8
  | 0,_=>[]
  | f+1,n=>if n<10 then [UInt8.ofNat (48+n)] else pR f (n / 10)++[UInt8.ofNat (48+n % 10)]
def dg (n:Nat):List UInt8:=pR 20 n
theorem Oa:∀ f n,(pR f n).length≤f
  | 0,_=>Nat.le_refl _
  | f+1,n=>by
    unfold pR
    split
    · exact Nat.succ_le_succ (Nat.zero_le _)
    · rw [List.length_append]
      have:=Oa f (n / 10)
      simpa using this
theorem Ob:∀ f n,n<10 ^ (f+1)→pR (f+2) n=pR (f+1) n
  | 0,n,h=>by
    have:n<10:=by simpa using h
    unfold pR;rw [if_pos this,if_pos this]
  | f+1,n,h=>by
    have ih:=Ob f (n / 10) (by rw [Nat.pow_succ] at h;omega)
    show (if n<10 then _ else pR (f+2) (n / 10)++_)=(if n<10 then _ else pR (f+1) (n / 10)++_)
    rw [ih]
theorem Oc {n:Nat} (h:n<10):dg n = [UInt8.ofNat (48+n)]:=by
  unfold dg pR;rw [if_pos h]
theorem YA {n:Nat} (h:¬ n<10) (hn:n<9223372036854775808):dg n=dg (n / 10)++[UInt8.ofNat (48+n % 10)]:=by
  have e:=Ob 18 (n / 10) (by have:(10:Nat) ^ 19=10000000000000000000:=(by decide);omega)
  show (if n<10 then _ else pR 19 (n / 10)++_)=pR 20 (n / 10)++_
  rw [if_neg h,e]
theorem YB:∀ k,k<100→dg k=fM k:=of_decide_eq_true (by kernel_rfl)
theorem YC (n:Nat):Es [n]=⟨[UInt8.ofNat n].toArray⟩:=rfl
set_option maxRecDepth 100000 in
theorem Od (n:Nat) (hn:n<10) (w:World):Calls Tryz.prog 7 #[.int .i64 (n:Int)] w fun e w'=>e=.returned (.string ⟨(dg n).toArray⟩)∧Below w.heap.size w w':=by
  have e1:decide ((n:Int)<0)=false:=by simp
  have e2:decide ((n:Int)<10)=true:=by rw [decide_eq_true_eq];omega
  have e3:IntKind.u8.wrap (wrap64 (48+(n:Int)))=((48+n:Nat):Int):=by
    rw [IntWalk.wrap64_in _ (by omega),IntKind.wrap_u8]
    omega
  have e4:wrap64 (48+(n:Int))=48+(n:Int):=IntWalk.wrap64_in _ (by omega)
  have hb:jI (w.alloc (.cells #[Value.int .u8 ((48+n:Nat):Int)] 5)) (some ⟨w.heap.size,0,none⟩) [48+n]:=by
    refine ⟨fun i=>?_,fun _=>⟨w.heap.size,0,rfl,fun i hi=>?_⟩⟩
    · match i with
      | 0=>show 48+n<256;omega
      | i+1=>show 0<256;omega
    · obtain rfl:i=0:=by simpa using hi
      rw [World.cell?_alloc_new]
      rfl
  have hc:=Qy (c:=1) hb (n:=1) rfl
  rw [YC,← Oc hn] at hc;have HB:Hid (Below w.heap.size w (w.alloc (.cells #[Value.int .u8 ((48+n:Nat):Int)] 5))):=Yh ((Below.refl _ _).alloc (Nat.le_refl _) _)
  have e5:((48+n:Nat):Int)=(48+(n:Int)) % 256:=by omega
  rw [e5] at hc HB;clear hn hb e5 e3;generalize (n:Int)=ni at *;generalize (⟨(dg n).toArray⟩:ByteArray)=ds at *;go_enter Tryz.func7,Tryz.ntmps7
  go_wp2_with fail;go_ret
  exact ⟨rfl,HB.out⟩
theorem Hy (n:Nat):(dg n).length≤20:=Oa 20 n
theorem num_add (n:Nat) (hl:¬ n<10) (hn:n<9223372036854775808) (W':World):(Op.stringOp .add ⟨(dg (n / 10)).toArray⟩ ⟨(dg (n % 10)).toArray⟩).run Tryz.prog W'=.ok (.string ⟨(dg n).toArray⟩) W':=by
  have h1:=Hy (n / 10)
  have h2:=Hy (n % 10)
  have h3:=run_string_add_lists (P:=Tryz.prog) W' (dg (n / 10)) (dg (n % 10)) (by omega) (by omega)
  rw [h3,YA hl hn,Oc (Nat.mod_lt n (by decide:0<10))]
set_option maxRecDepth 100000 in
theorem YD (n:Nat) (hl:¬ n<10) (hn:n<9223372036854775808) (w:World) (hr:∀ w:World,Calls Tryz.prog 7 #[.int .i64 ((n / 10:Nat):Int)] w fun e w'=>e=.returned (.string ⟨(dg (n / 10)).toArray⟩)∧Below w.heap.size w w'):
    Calls Tryz.prog 7 #[.int .i64 (n:Int)] w fun e w'=>e=.returned (.string ⟨(dg n).toArray⟩)∧Below w.heap.size w w':=by
  have e1:decide ((n:Int)<0)=false:=by simp
  have e2:decide ((n:Int)<10)=false:=by rw [decide_eq_false_iff_not];omega
  have e3:Int.tdiv (n:Int) 10=((n / 10:Nat):Int):=by
    rw [Int.tdiv_eq_ediv_of_nonneg (by omega)]
    omega
  have e4:Int.tmod (n:Int) 10=((n % 10:Nat):Int):=by
    rw [Int.tmod_eq_emod_of_nonneg (by omega)]
    omega
  have e5:wrap64 ((n / 10:Nat):Int)=((n / 10:Nat):Int):=IntWalk.wrap64_in _ (by omega)
  have e6:wrap64 ((n % 10:Nat):Int)=((n % 10:Nat):Int):=IntWalk.wrap64_in _ (by omega)
  have e7:IntKind.i64.wrap ((n / 10:Nat):Int)=((n / 10:Nat):Int):=by rw [IntKind.wrap_i64];omega
  have e8:IntKind.i64.wrap ((n % 10:Nat):Int)=((n % 10:Nat):Int):=by rw [IntKind.wrap_i64];omega
  have H1:=Yh hr
  have H2:=Yh (fun w=>Od (n % 10) (Nat.mod_lt _ (by decide)) w)
  have hadd:∀ W',(Op.stringOp .add ⟨(dg (n / 10)).toArray⟩ ⟨(dg (n % 10)).toArray⟩).run Tryz.prog W'=.ok (.string ⟨(dg n).toArray⟩) W':=fun W'=>num_add n hl hn W'
  clear hl hn hr;generalize ((n / 10:Nat):Int)=qi at *;generalize ((n % 10:Nat):Int)=ri at *;generalize (n:Int)=ni at *;generalize (⟨(dg (n / 10)).toArray⟩:ByteArray)=s1 at *;generalize (⟨(dg (n % 10)).toArray⟩:ByteArray)=s2 at *;generalize (⟨(dg n).toArray⟩:ByteArray)=s3 at *;go_enter Tryz.func7,Tryz.ntmps7
  go_wp2_with fail;refine (H1.out _).mono ?_
  rintro e w1 ⟨rfl,hb1⟩;have HB1:=Yh hb1
  clear hb1
  go_wp2_with fail;refine (H2.out _).mono ?_
  rintro e w2 ⟨rfl,hb2⟩;have HB2:=Yh hb2
  clear hb2
  go_wp2_with fail;go_ret
  exact ⟨rfl,HB1.out.trans (HB2.out.mono HB1.out.size)⟩
theorem Oe:∀ (f n:Nat),n<f→n<9223372036854775808→∀ w:World,Calls Tryz.prog 7 #[.int .i64 (n:Int)] w fun e w'=>e=.returned (.string ⟨(dg n).toArray⟩)∧Below w.heap.size w w'
  | 0,n,h,_,_=>by omega
  | f+1,n,h,hn,w=>by
    by_cases hl:n<10
    · exact Od n hl w
    · exact YD n hl hn w (fun w=>Oe f (n / 10) (by omega) (by omega) w)
theorem Og:∀ (l:List In) (i j:Nat),i<l.length→j<5→(iK l)[i*5+j]? = some (.int .i64 (rR l i j))
  | [],i,j,h,_=>absurd h (Nat.not_lt_zero _)
  | x::r,0,j,_,hj=>by
    show (x.cs++iK r)[0*5+j]? = _
    rw [Nat.zero_mul,Nat.zero_add,List.getElem?_append_left (by rw [zg];exact hj)]
    match j,hj with
    | 0,_=>rfl
    | 1,_=>rfl
    | 2,_=>rfl
    | 3,_=>rfl
    | 4,_=>rfl
    | j+5,hj=>omega
  | x::r,i+1,j,h,hj=>by
    show (x.cs++iK r)[(i+1)*5+j]? = _
    rw [List.getElem?_append_right (by rw [zg];omega),zg,show (i+1)*5+j-5=i*5+j by omega]
    exact Og r i j (by simpa using h) hj
theorem DC (V:Nat→Nat→Int):∀ (n i:Nat),(jU V n).getD i 0<256
  | 0,i=>by rw [jU];simp
  | n+1,i=>by
    rw [jU,List.getD_eq_getElem?_getD];rcases Nat.lt_or_ge i (jU V n).length with h|h
    · rw [List.getElem?_append_left h,← List.getD_eq_getElem?_getD]
      exact DC V n i
    · rw [List.getElem?_append_right h,← List.getD_eq_getElem?_getD]
      exact Ej _ _ _
def preB:ByteArray:=⟨#[108,105,32,114,49,44,32,49,10,115,108,108,105,32,114,49,44,32,114,49,44,32,51,48,10]⟩
section
variable {W w:World} {os:List Oj}
set_option maxRecDepth 100000 in
theorem Oh (t s:ByteArray) (l:List In) (lb:Option Nat) (jp:Option (Nat × Nat)) (hsz:t.size≤50000) (hts:preB++t=s) (hr:∀ i,i<l.length→tJ (rR l) i=true) (h0:0<l.length) (hl:l.length≤200)
    (HP:Hid (∀ (w:World) (os:List Oj),Gl W→aa W os w→Calls Tryz.prog 20 #[.string s] w fun e w'=>∃ rb mb lv jv,e=.returned (.tuple #[lv,.int .i64 0,.int .i64 0])∧aa W (cu W.heap.size rb mb ⟨l,lb,jp⟩ lv jv os) w'))
    (hg:Gl W) (h:aa W os w):
    Calls Tryz.prog 6 #[.string t] w fun e w'=>∃ A c,e=.returned (.slice A (4*l.length) c)∧aa W (aV [(A,bW l)]::os) w':=by
  have hadd:∀ W',(Op.stringOp .add ⟨#[108,105,32,114,49,44,32,49,10,115,108,108,105,32,114,49,44,32,114,49,44,32,51,48,10]⟩ t).run Tryz.prog W'=.ok (.string s) W':=fun W'=>by
    rw [run_string_add_sum W' _ _ (by show 25+t.size≤_;omega),← hts]
    rfl
  have rf:=Yh (HP.out w os hg h)
  have HQ:=Yh (And.intro hr (And.intro h0 hl))
  clear h hg hr h0 hl HP hsz hts;go_enter Tryz.func6,Tryz.ntmps6
  go_wp2_with fail;refine rf.out.mono ?_
  rintro e w1 ⟨rb,mb,lv,jv,rfl,h1⟩;obtain ⟨g,cap,hv,_,hgl,hc,_⟩:=ze (h1.owns 1 rfl) (by have h2:=HQ.out.2.1;show l.length≠0;omega)
  subst hv;have HB:=Yh (WK g 0 l.length cap (rR l) w1 ⟨hgl,fun i hi j hj=>by
    rw [Nat.zero_add];exact hc _ _ (Og l i j hi hj)⟩ HQ.out.2.2)
  have H1:=Yh h1
  clear h1 hc hadd rf
  go_wp2_with fail;refine HB.out.mono ?_
  rintro e w2 ⟨hb,⟨_,v,rfl,ho⟩|⟨⟨m,hm,hmr⟩,_⟩⟩
  · obtain ⟨A,c,rfl,hB,hA⟩:=Jr ho (DC _ _) (by rw [rQ])
    have H2:=Yh (H1.out.Cj hb hB (fun a ha=>by subst ha;exact ho.lt a.block rfl))
    clear ho hB hA hb HB
    go_wp2_with fail;go_ret
    refine ⟨A,c,?_,?_⟩
    · show Ending.returned (Value.slice A (jU (rR l) l.length).length c)=_
      rw [rQ]
    exact aa.permA (xs:=aV [(A,bW l)]::cu W.heap.size rb mb ⟨l,lb,jp⟩ (.slice (some ⟨g,0,none⟩) l.length cap) jv []) [0] H2.out (by decide) (show ∀ i,i∈[0]→i<5 by decide)
  · exact absurd (HQ.out.1 m hm) (by rw [hmr];decide)
end
def tB:ByteArray:=⟨#[108,105,32,114,50,44,32,51,10,115,100,32,114,50,44,32,56,40,114,49,41,10,104,97,108,116]⟩
def sB:ByteArray:=⟨#[108,105,32,114,49,44,32,49,10,115,108,108,105,32,114,49,44,32,114,49,44,32,51,48,10,108,105,32,114,50,44,32,51,10,115,100,32,114,50,44,32,56,40,114,49,41,10,104,97,108,116]⟩
def tA (k:Nat):ByteArray:=⟨([108,105,32,114,50,44,32]++fM k++[10,108,111,111,112,58,10,115,100,32,114,50,44,32,48,40,114,49,41,10,108,100,32,114,51,44,32,48,40,114,49,41,10,97,100,100,105,32,114,50,44,32,114,50,44,32,45,49,10,98,110,101,32,114,50,44,32,114,48,44,32,108,111,111,112,10,104,97,108,116]).toArray⟩
def sA (k:Nat):ByteArray:=⟨([108,105,32,114,49,44,32,49,10,115,108,108,105,32,114,49,44,32,114,49,44,32,51,48,10,108,105,32,114,50,44,32]++fM k++[10,108,111,111,112,58,10,115,100,32,114,50,44,32,48,40,114,49,41,10,108,100,32,114,51,44,32,48,40,114,49,41,10,97,100,100,105,32,114,50,44,32,114,50,44,32,45,49,10,98,110,101,32,114,50,44,32,114,48,44,32,108,111,111,112,10,104,97,108,116]).toArray⟩
def lsB:List ByteArray:=[oD 1 1,yZ,oD 2 3,tT 8,Dw]
def lsA (k:Nat):List ByteArray:=[oD 1 1,yZ,oD 2 k,qL,tT 0,za,Dv,kG,Dw]
def SB (i:Nat):pQ:=⟨dz.take i,none,none⟩
def Hz (k:Nat):List In:=[⟨1,1,0,0,1⟩,⟨3,1,1,0,30⟩,⟨1,2,0,0,(k:Int)⟩,⟨29,0,1,2,0⟩,⟨22,3,1,0,0⟩,⟨2,2,2,0,-1⟩,⟨16,0,2,0,0⟩,⟨0,0,0,0,0⟩]
def SA (k i:Nat):pQ:=if i≤3 then ⟨(Hz k).take i,none,none⟩ else if i≤7 then ⟨(Hz k).take (i-1),some 3,none⟩ else ⟨(Hz k).take (i-1),some 3,some (8,6)⟩
end Go.Proofs.YtnebdlchogmneaaGreatDoor
namespace Go.Proofs.YtnebdlchogmneaaGreatDoor
open Go.RowKit
theorem YE:Lib.splitB ⟨#[10]⟩ 0 (Lib.countB (sA 1) ⟨#[10]⟩) (sA 1)=lsA 1∧Lib.countB (sA 1) ⟨#[10]⟩+1=9∧(sA 1).size≤60000:=of_decide_eq_true (by kernel_rfl)
theorem YF:Lib.splitB ⟨#[10]⟩ 0 (Lib.countB (sA 2) ⟨#[10]⟩) (sA 2)=lsA 2∧Lib.countB (sA 2) ⟨#[10]⟩+1=9∧(sA 2).size≤60000:=of_decide_eq_true (by kernel_rfl)
theorem YG:Lib.splitB ⟨#[10]⟩ 0 (Lib.countB (sA 3) ⟨#[10]⟩) (sA 3)=lsA 3∧Lib.countB (sA 3) ⟨#[10]⟩+1=9∧(sA 3).size≤60000:=of_decide_eq_true (by kernel_rfl)
theorem YH:Lib.splitB ⟨#[10]⟩ 0 (Lib.countB (sA 4) ⟨#[10]⟩) (sA 4)=lsA 4∧Lib.countB (sA 4) ⟨#[10]⟩+1=9∧(sA 4).size≤60000:=of_decide_eq_true (by kernel_rfl)
theorem YI:Lib.splitB ⟨#[10]⟩ 0 (Lib.countB (sA 5) ⟨#[10]⟩) (sA 5)=lsA 5∧Lib.countB (sA 5) ⟨#[10]⟩+1=9∧(sA 5).size≤60000:=of_decide_eq_true (by kernel_rfl)
theorem YJ:Lib.splitB ⟨#[10]⟩ 0 (Lib.countB (sA 6) ⟨#[10]⟩) (sA 6)=lsA 6∧Lib.countB (sA 6) ⟨#[10]⟩+1=9∧(sA 6).size≤60000:=of_decide_eq_true (by kernel_rfl)
theorem YK:Lib.splitB ⟨#[10]⟩ 0 (Lib.countB (sA 7) ⟨#[10]⟩) (sA 7)=lsA 7∧Lib.countB (sA 7) ⟨#[10]⟩+1=9∧(sA 7).size≤60000:=of_decide_eq_true (by kernel_rfl)
theorem YL:Lib.splitB ⟨#[10]⟩ 0 (Lib.countB (sA 8) ⟨#[10]⟩) (sA 8)=lsA 8∧Lib.countB (sA 8) ⟨#[10]⟩+1=9∧(sA 8).size≤60000:=of_decide_eq_true (by kernel_rfl)
theorem YM:Lib.splitB ⟨#[10]⟩ 0 (Lib.countB (sA 9) ⟨#[10]⟩) (sA 9)=lsA 9∧Lib.countB (sA 9) ⟨#[10]⟩+1=9∧(sA 9).size≤60000:=of_decide_eq_true (by kernel_rfl)
theorem YN:Lib.splitB ⟨#[10]⟩ 0 (Lib.countB (sA 10) ⟨#[10]⟩) (sA 10)=lsA 10∧Lib.countB (sA 10) ⟨#[10]⟩+1=9∧(sA 10).size≤60000:=of_decide_eq_true (by kernel_rfl)
theorem YO:Lib.splitB ⟨#[10]⟩ 0 (Lib.countB (sA 11) ⟨#[10]⟩) (sA 11)=lsA 11∧Lib.countB (sA 11) ⟨#[10]⟩+1=9∧(sA 11).size≤60000:=of_decide_eq_true (by kernel_rfl)
theorem YP:Lib.splitB ⟨#[10]⟩ 0 (Lib.countB (sA 12) ⟨#[10]⟩) (sA 12)=lsA 12∧Lib.countB (sA 12) ⟨#[10]⟩+1=9∧(sA 12).size≤60000:=of_decide_eq_true (by kernel_rfl)
theorem YQ:Lib.splitB ⟨#[10]⟩ 0 (Lib.countB (sA 13) ⟨#[10]⟩) (sA 13)=lsA 13∧Lib.countB (sA 13) ⟨#[10]⟩+1=9∧(sA 13).size≤60000:=of_decide_eq_true (by kernel_rfl)
theorem YR:Lib.splitB ⟨#[10]⟩ 0 (Lib.countB (sA 14) ⟨#[10]⟩) (sA 14)=lsA 14∧Lib.countB (sA 14) ⟨#[10]⟩+1=9∧(sA 14).size≤60000:=of_decide_eq_true (by kernel_rfl)
theorem YS:Lib.splitB ⟨#[10]⟩ 0 (Lib.countB (sA 15) ⟨#[10]⟩) (sA 15)=lsA 15∧Lib.countB (sA 15) ⟨#[10]⟩+1=9∧(sA 15).size≤60000:=of_decide_eq_true (by kernel_rfl)
end Go.Proofs.YtnebdlchogmneaaGreatDoor
