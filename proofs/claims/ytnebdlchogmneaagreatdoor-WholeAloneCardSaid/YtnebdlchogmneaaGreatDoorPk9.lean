/- Texts of the proof: MmuE, MmuF, MmuG, MmuH, MmuJ, FrC, FrD. -/
import Derived.Test.YtnebdlchogmneaaGreatDoorPk8
import Derived.Test.YtnebdlchogmneaaGreatDoorPk6
import Derived.Test.YtnebdlchogmneaaGreatDoorPk3
import Derived.Test.YtnebdlchogmneaaGreatDoorPk1
set_option maxRecDepth 100000
set_option maxHeartbeats 8000000
set_option linter.unusedVariables false
set_option linter.unusedSimpArgs false
namespace Go.Proofs.YtnebdlchogmneaaGreatDoor
open Go.RowKit
theorem Cs {P:Program} {ls:List Oper} {Q:Exit→Act→World→Prop} {R:World→World→Prop} {ds:List (Nat × Option Tmp)} (S:(Nat→Value)→World→Prop) (t2:PT) {a:Act} {w:World} {t:PT} {k:Nat} {L:Array Bool} (hs:Region.noSelect ls.toArray=true) (hR:Later R)
    (hQ:∀ c d v a w,Q (.panic c) (a.put d v) w→Q (.panic c) a w) (hk:t2.depth=k) (hok:(kQ .any ls.toArray t2 L&&El .any ls.toArray L)=true)
    (hend:∀ x w',S x w'→dx R P ls.toArray Q t2 (fill a x ds) w') (h:(∀ x w',S x w'→dx R P ls.toArray Q (.rest k L) (fill a x ds) w')→dx R P ls.toArray Q t a w):dx R P ls.toArray Q t a w:=
  h fun x w' hS n hn=>rJ hR hs hQ t2 n L _ _ (Ji (Bool.and_eq_true _ _ ▸ hok).2) (by omega) (Bool.and_eq_true _ _ ▸ hok).1 (hend x w' hS)
theorem aa.ne {W w:World} {os:List Oj} (h:aa W os w) (i j:Nat) {b b':Nat} {t t':TypeId} {cs cs':Array Value} (hi:os[i]? = some (ae b t cs)) (hj:os[j]? = some (ae b' t' cs')) (hij:i≠j):b≠b':=by
  obtain ⟨Fs,h1,h2,h3,h4⟩:=h.ex
  obtain ⟨F,hF⟩:=o6 h1 hi
  obtain ⟨G,hG⟩:=o6 h1 hj
  rintro rfl;exact h3 i j F G hF hG hij b (((h2 i _ F hi hF).2 b).2 rfl) (((h2 j _ G hj hG).2 b).2 rfl)
theorem abd (f:Fd):qh f=.agg (lI f).cs:=(aa8 f).symm
theorem PW {n:Nat} {S:Nat→List Nat} {va x l a:Nat}:∀ (L t:Nat),L≤2→findF n S va L t=.leaf x l a→l≤2∧a<18446744073709551616
  | 0,t,hL,h=>by
    rcases D5 h with ⟨rfl,rfl,_⟩|h
    · exact ⟨hL,xP _ _ _⟩
    · cases h
  | L+1,t,hL,h=>by
    rcases D5 h with ⟨rfl,rfl,_⟩|h
    · exact ⟨hL,xP _ _ _⟩
    · exact PW L _ (by omega) h
theorem PX (n:Nat) (S:Nat→List Nat) (on:Bool) (ag va:Nat):oI (lI (fP n S on ag va)):=by
  cases h:fP n S on ag va with
  | err e =>
    show oI dS
    unfold oI;decide
  | leaf x l a =>
    have hl:l≤2∧a<18446744073709551616:=by
      unfold fP at h
      split at h
      · split at h
        · exact PW 2 _ (by omega) h
        · cases h
      · cases h
    unfold oI lI;simp only
    exact ⟨EB (by omega) (by omega),BS (by omega) (by omega),EB (by omega) (by omega),BS (by omega) (by omega)⟩
section
variable {n k m va:Nat} {S:Nat→List Nat} {T:List (List En)} {u:Un} {a pick size:Int}
theorem abe (h:oK T):oI (dR n S T u va a pick).1:=by
  unfold Proofs.YtnebdlchogmneaaGreatDoor.dR
  split
  · rename_i lf hf
    have:=aaN (va:=va) (ak:=u.ak) h
    rw [hf] at this;exact this
  · split <;> exact PX _ _ _ _ _
end
section
variable {P:Program} {o:Oper} {a:Act} {w:World} {K:Act→World→Prop} {Q:Exit→Act→World→Prop}
theorem yQ (ty:TypeId) (x y:Operand) (ho:o.op=.store ty x y) (g:Nat) (t:TypeId) (old cs:Array Value) (hx:a.eval x=.pointer (some ⟨g,0,none⟩)) (hy:a.eval y=.agg cs)
    (hg:Blk w g t old) (hs:old.size=cs.size) (ht:dO P ty cs.size=true) (h1:cs.all (·.oneCell')=true) (h:K (a.put o.dst undef) (w.setRow g cs)):o.wp P a w K Q:=by
  obtain ⟨d,_,_,h3⟩:=uA ht
  exact wp_store_row ty x y ho g cs hx hy t old hg h3 hs h1 h
end
def SameL (l:List Nat) (w w':World):Prop:=∀ b,b∈l→w'.heap[b]? = w.heap[b]?
theorem later_same (l:List Nat):Later (SameL l):=⟨fun _ _ _=>rfl,fun h k b hb=>(k b hb).trans (h b hb)⟩
theorem SameL.cell {l:List Nat} {b i:Nat} {w w':World} {v:Value} (h:SameL l w w') (hb:b∈l) (hc:w.cell? ⟨b,i,none⟩=some v):w'.cell? ⟨b,i,none⟩=some v:=by
  rw [World.cell?_of_block (a:=⟨b,i,none⟩) (h b hb)];exact hc
theorem SameL.blk {l:List Nat} {b:Nat} {t:TypeId} {cs:Array Value} {w w':World} (h:SameL l w w') (hb:b∈l) (hc:Blk w b t cs):Blk w' b t cs:=(h b hb).trans hc
theorem SameL.ext {l:List Nat} {w w':World} (h:Ext w w') (hb:∀ b,b∈l→b<w.heap.size):SameL l w w':=fun b hm=>h.block b (hb b hm)
theorem SameL.row {l:List Nat} {g:Nat} (w:World) (cs:Array Value) (h:∀ b,b∈l→b≠g):SameL l w (w.setRow g cs):=fun b hb=>setRow_other w g b cs (h b hb)
theorem cZ (w:World) (o:Go.Obj):Ext w (w.alloc o):=(Ext.refl w).alloc (Nat.le_refl _) o
def Eb (a b c d e:Value):Nat→Value
  | 10=>a
  | 11=>b
  | 12=>c
  | 13=>d
  | 14=>e
  | _=>undef
theorem BM {W w:World} {os:List Oj} {g i:Nat} {l:Tf} (h:aa W os w) (hi:os[i]? = some (ae g 418 l.cs)):w.rangeAt g 0 l.cs.toList:=(h.blk i hi).range
theorem I8 (u:Un) (m b:Nat):(u.cs m b)[0]? = some (.pointer (some ⟨m,0,none⟩)):=rfl
theorem un1 (u:Un) (m b:Nat):(u.cs m b)[1]? = some (.pointer (some ⟨b,0,none⟩)):=rfl
theorem un2 (u:Un) (m b:Nat):(u.cs m b)[2]? = some (.bool u.on):=rfl
theorem un3 (u:Un) (m b:Nat):(u.cs m b)[3]? = some (.int .i64 u.ak):=rfl
theorem un4 (u:Un) (m b:Nat):(u.cs m b)[4]? = some (.int .u64 (u.ag:Int)):=rfl
def fU (ub m b n k mm:Nat) (u:Un) (S:Nat→List Nat) (T:List (List En)) (os:List Oj):List Oj:=ae ub 258 (u.cs m b)::gH b k mm T::eQ m n S::os
def Un.Ok (u:Un):Prop:=u.ag<18446744073709551616∧(Lit.int .i64 u.ak).wf=true
def vR (W:World) (ub m b n k mm:Nat) (u:Un) (S:Nat→List Nat) (T:List (List En)) (os:List Oj) (va:Nat) (a pick:Int) (e:Ending) (w':World):Prop:=
  e=.returned (.tuple #[.agg (dR n S T u va a pick).1.cs,.int .i64 (dR n S T u va a pick).2.1])∧aa W (fU ub m b n k mm u S (dR n S T u va a pick).2.2 os) w'∧Below W.heap.size W w'
theorem abf (ub m b n k mm:Nat) (u:Un) (S:Nat→List Nat) (T:List (List En)) (os:List Oj) (va:Nat) (a pick:Int) (W w:World) (hv:va<18446744073709551616) (hp:-9223372036854775808≤pick∧pick<9223372036854775808) (hu:u.Ok)
    (h:aa W (fU ub m b n k mm u S T os) w):
    Calls Tryz.prog 266 #[.pointer (some ⟨ub,0,none⟩),.int .u64 va,.int .i64 a,.int .i64 pick] w (vR W ub m b n k mm u S T os va a pick):=by
  have HR:Hid (vR W ub m b n k mm u S T os va a pick=vR W ub m b n k mm u S T os va a pick):=Yh rfl
  unfold fU at h;have dL:=Yh (h.push dS.cs 418 rfl)
  have HV:=Yh hv
  have HP:=Yh hp
  have HU:=Yh hu
  obtain ⟨g0,hg0⟩:∃ g0,g0=w.heap.size:=⟨_,rfl⟩
  rw [← hg0] at dL;have hne:g0≠ub:=by have:=(h.blk 0 rfl).lt;omega
  have vL:=Yh hne
  clear h hp hu hv hne;go_enter Tryz.func266,Tryz.ntmps266
  go_wp2_with fail;rw [← hg0];refine Ep (fun w1 hw1=>?_)
  have dL:Hid (aa W (ae g0 418 dS.cs::fU ub m b n k mm u S T os) w1):=Yh (by rw [hw1];exact dL.out)
  clear hw1 hg0;have zw:=(dL.out.blk 1 rfl).lt
  have s1:∀ W',SameL [ub] w1.drew W'→W'.cell? ⟨ub,1,none⟩=some (.pointer (some ⟨b,0,none⟩)):=fun W' h=>h.cell (by simp) ((dL.out.drew.blk 1 rfl).cell 1)
  have s3:∀ W',SameL [ub] w1.drew W'→W'.cell? ⟨ub,3,none⟩=some (.int .i64 u.ak):=fun W' h=>h.cell (by simp) ((dL.out.drew.blk 1 rfl).cell 3)
  refine wp_region_pt (SameL [ub]) (later_same [ub]) (PT.steps [0,1,2,3,4,5,6,7,8,9] (.fork 10 (.step 11 (.step 12 (.step 13 (.turn 14 (.rest 2 (kL 17 [0,1,2,3,4,5,6,7,8,9,10,11,12,13,14])))))) 14 (.turn 10 (.step 11 (.step 12 (.step 13 (.rest 2 (kL 17 [0,1,2,3,4,5,6,7,8,9,10,11,12,13,14])))))))) (by kernel_rfl) (by kernel_rfl) (fun _ d _ _ _ h=>by cases d <;> exact h) ?_
  unfold PT.steps
  iterate 10 (refine pt_take (v:=?_) rfl (by kernel_rfl) ?_ ?_;rotate_left;(focus (intro w' hw';try go_simp;try with_reducible rfl));simp only [Act.put,pa1,pa2,pa3])
  clear s1 s3;have HD1:=Yh dL.out.drew
  generalize w1.drew=y1 at HD1 ⊢;obtain ⟨fs,hfs⟩:∃ fs,fs=j3 T va u.ak:=⟨_,rfl⟩
  have Ec:=Yh hfs
  clear hfs;refine Cs (L:=kL 17 [0,1,2,3,4,5,6,7,8,9,10,11,12,13,14]) (k:=2) (ds:=[(10,some 24),(11,some 13),(12,some 25),(13,some 26),(14,some 10)]) (fun x wz=>∃ g,x 10=.tuple #[.agg (fs.getD dS).cs,.bool fs.isSome]∧x 11=.tuple #[.agg (fs.getD dS).cs,.bool fs.isSome]∧x 12=.agg (fs.getD dS).cs∧x 13=.bool fs.isSome∧x 14=.pointer (some ⟨g,0,none⟩)∧aa W (ae g 418 dS.cs::ae g0 418 dS.cs::fU ub m b n k mm u S T os) wz) (.turn 15 (.step 16 .done)) (by kernel_rfl) (later_same [ub]) (fun _ d _ _ _ h=>by cases d <;> exact h) rfl (by kernel_rfl) ?_ ?_
  · rintro x wz ⟨g,e10,e11,e12,e13,e14,hO⟩
    simp only [fill,Act.put,List.setIfInBounds_toArray,List.set_cons_zero,List.set_cons_succ]
    rw [e10,e11,e12,e13,e14];refine fB ?_
    refine dw (R:=SameL [ub]) rfl (by kernel_rfl) (fun K hK=>?_)
    refine yQ 418 (.tmp 10) (.tmp 25) rfl g 418 dS.cs (fs.getD dS).cs rfl rfl (hO.blk 0 rfl) rfl (kI _) (vM _) ?_
    refine hK _ _ ⟨SameL.row _ _ (fun q hq=>by simp only [List.mem_singleton] at hq;rw [hq];exact hO.ne 2 0 rfl rfl (by decide)),?_⟩
    clear hK K
    (try simp only [Act.put,pa1,pa2,pa3])
    iterate 1 (refine pt_take (v:=?_) rfl (by kernel_rfl) ?_ ?_;rotate_left;(focus (intro w' hw';try go_simp;try with_reducible rfl));simp only [Act.put,pa1,pa2,pa3])
    refine uM ?_
    have iF:=Yh (hO.row 0 rfl (fs.getD dS).cs)
    have C9:Hid (g≠g0):=Yh (hO.ne 0 1 rfl rfl (by decide))
    have HGU:Hid (g≠ub):=Yh (hO.ne 0 2 rfl rfl (by decide))
    generalize wz.setRow g (fs.getD dS).cs=w3 at iF ⊢;clear e10 e11 e12 e13 e14 x hO HD1 dL
    cases fs with
    | some lf =>
      have oU:Hid (dR n S T u va a pick=(lf,-1,T)):=Yh (by unfold dR;rw [← Ec.out])
      have iF:Hid (aa W (ae g 418 lf.cs::ae g0 418 dS.cs::fU ub m b n k mm u S T os) w3):=iF
      have hrg:=BM (i:=0) iF.out rfl
      have lH:=Yh (iF.out.row 1 rfl lf.cs)
      simp only [Option.getD_some,Option.isSome_some]
      have hbk:=iF.out.blk 1 rfl
      go_wp2_with (first|((with_reducible refine wl_load 418 (.tmp 10) rfl ?_ g 0 lf.cs ?_ hrg ?_ ?_); exact rfl; exact rfl; exact kI lf)|((with_reducible refine wl_store 418 (.tmp 8) (.tmp 28) rfl ?_ g0 418 dS.cs lf.cs ?_ ?_ hbk ?_ ?_ ?_ ?_); exact rfl; exact rfl; exact rfl; exact rfl; exact kI lf; exact vM lf))
      refine bodyPost_ret (v:=.tuple #[.agg lf.cs,.int .i64 (-1)]) (fJ Tryz.results266 _ _ g0 418 _ _ rfl rfl (lH.out.blk 1 rfl) (kI lf)) rfl ?_
      unfold vR;rw [oU.out];exact ⟨rfl,lH.out.drop 2,lH.out.bel⟩
    | none =>
      have iF:Hid (aa W (ae g 418 dS.cs::ae g0 418 dS.cs::fU ub m b n k mm u S T os) w3):=iF
      simp only [Option.getD_none,Option.isSome_none]
      have oU:Hid (dR n S T u va a pick=if jO (fP n S u.on u.ag va)=0 then (lI (fP n S u.on u.ag va),-1,kN T va u.ak (lI (fP n S u.on u.ag va)) pick)
        else (lI (fP n S u.on u.ag va),if jO (fP n S u.on u.ag va)=61 then iq a 1 5 7 else iq a 12 13 15,T)):=Yh (by unfold dR;rw [← Ec.out])
      have o8:=Yh (PX n S u.on u.ag va)
      obtain ⟨fd,mY⟩:∃ fd,fd=fP n S u.on u.ag va:=⟨_,rfl⟩
      rw [← mY] at oU o8;have qo:=Yh mY
      clear mY;obtain ⟨lf,hlf⟩:∃ lf,lf=lI fd:=⟨_,rfl⟩
      rw [← hlf] at oU o8;have nO:=Yh hlf
      clear hlf
      go_wp2_with fail;have s0:∀ W',SameL [ub] w3.drew W'→W'.cell? ⟨ub,0,none⟩=some (.pointer (some ⟨m,0,none⟩)):=fun W' h=>h.cell (by simp) ((iF.out.drew.blk 2 rfl).cell 0)
      have s2:∀ W',SameL [ub] w3.drew W'→W'.cell? ⟨ub,2,none⟩=some (.bool u.on):=fun W' h=>h.cell (by simp) ((iF.out.drew.blk 2 rfl).cell 2)
      have s3:∀ W',SameL [ub] w3.drew W'→W'.cell? ⟨ub,3,none⟩=some (.int .i64 u.ak):=fun W' h=>h.cell (by simp) ((iF.out.drew.blk 2 rfl).cell 3)
      have s4:∀ W',SameL [ub] w3.drew W'→W'.cell? ⟨ub,4,none⟩=some (.int .u64 (u.ag:Int)):=fun W' h=>h.cell (by simp) ((iF.out.drew.blk 2 rfl).cell 4)
      refine wp_region_plan_by (SameL [ub]) (later_same [ub]) [(0,false),(1,false),(2,false),(3,false),(4,false),(5,false),(6,false),(7,false),(8,false),(9,true),(10,false),(11,false),(12,false),(13,true),(14,false)] (by kernel_rfl) (by kernel_rfl) (fun _ d _ _ _ h=>by cases d <;> exact h) ?_
      iterate 9 (refine plan_take (v:=?_) rfl (by kernel_rfl) ?_ ?_;rotate_left;(focus (intro w' hw';try go_simp;try with_reducible rfl));simp only [Act.put,pa1,pa2,pa3])
      clear s0 s2 s3 s4;have HD3:=Yh iF.out.drew
      generalize w3.drew=y3 at HD3 ⊢;clear iF
      refine plan_call rfl (by kernel_rfl) (by go_simp; exact ⟨rfl, rfl⟩) ?_
      refine (HD3.out.aaQ 4 rfl va u.ag u.ak u.on HV.out HU.out.1).mono ?_
      rintro e y4 ⟨rfl,hO4,hx4⟩;rw [← qo.out,abd,← nO.out]
      refine ⟨_, rfl, (SameL.ext hx4 (fun q hq => by simp only [List.mem_singleton] at hq; rw [hq]; exact (HD3.out.blk 2 rfl).lt)), ?_⟩
      simp only [Act.put,pa1,pa2,pa3]
      iterate 3 (refine plan_take (v:=?_) rfl (by kernel_rfl) ?_ ?_;rotate_left;(focus (intro w' hw';try go_simp;try with_reducible rfl));simp only [Act.put,pa1,pa2,pa3])
      clear HD3;refine plan_turn rfl (by kernel_rfl) (fun K hK=>?_)
      refine yQ 418 (.tmp 10) (.tmp 40) rfl g 418 dS.cs lf.cs rfl rfl (hO4.blk 0 rfl) rfl (kI _) (vM _) ?_
      refine hK _ _ ⟨SameL.row _ _ (fun q hq=>by simp only [List.mem_singleton] at hq;rw [hq];exact hO4.ne 2 0 rfl rfl (by decide)),?_⟩
      clear hK K
      (try simp only [Act.put,pa1,pa2,pa3])
      iterate 1 (refine plan_take (v:=?_) rfl (by kernel_rfl) ?_ ?_;rotate_left;(focus (intro w' hw';try go_simp;try with_reducible rfl));simp only [Act.put,pa1,pa2,pa3])
      refine aG ?_
      have iR:=Yh (hO4.row 0 rfl lf.cs)
      generalize y4.setRow g lf.cs=w5 at iR ⊢;clear hO4 hx4;have hrg:=BM (i:=0) iR.out rfl
      have hrd:=BM (i:=0) iR.out.drew rfl
      have mO:=Yh hrd
      clear hrd;rcases (show jO fd=0∨jO fd=61∨(jO fd≠0∧jO fd≠61) by omega) with he|he|⟨he,he2⟩
      · rw [if_pos he] at oU
        rw [he]
        go_wp2_with fail;have s1:∀ W',SameL [ub,g] w5.drew W'→W'.cell? ⟨ub,1,none⟩=some (.pointer (some ⟨b,0,none⟩)):=fun W' h=>h.cell (by simp) ((iR.out.drew.blk 2 rfl).cell 1)
        have s3:∀ W',SameL [ub,g] w5.drew W'→W'.cell? ⟨ub,3,none⟩=some (.int .i64 u.ak):=fun W' h=>h.cell (by simp) ((iR.out.drew.blk 2 rfl).cell 3)
        refine wp_region_plan_by (SameL [ub,g]) (later_same [ub,g]) [(0,false),(1,false),(2,false),(3,false),(4,false),(5,false),(6,false),(7,false),(8,false),(9,false),(10,false),(11,false),(12,true)] (by kernel_rfl) (by kernel_rfl) (fun _ d _ _ _ h=>by cases d <;> exact h) ?_
        iterate 10 (refine plan_take (v:=?_) rfl (by kernel_rfl) ?_ ?_;rotate_left;(focus (intro w' hw';try go_simp;try with_reducible rfl));simp only [Act.put,pa1,pa2,pa3])
        refine plan_take (v:=.agg lf.cs) rfl (by kernel_rfl) (fun w' hw'=>uU 418 (.tmp 10) rfl g 0 lf.cs rfl (hw'.blk (by simp) (iR.out.drew.blk 0 rfl)).range (kI lf)) ?_
        simp only [Act.put,pa1,pa2,pa3]
        iterate 1 (refine plan_take (v:=?_) rfl (by kernel_rfl) ?_ ?_;rotate_left;(focus (intro w' hw';try go_simp;try with_reducible rfl));simp only [Act.put,pa1,pa2,pa3])
        clear s1 s3
        refine plan_call rfl (by kernel_rfl) (by go_simp; exact ⟨rfl, rfl⟩) ?_
        refine (iR.out.drew.aaR 3 rfl va u.ak lf pick HV.out HP.out o8.out HU.out.2).mono ?_
        rintro e y6 ⟨rfl,Ed,hb6⟩;have hS6:SameL [ub,g] w5.drew y6:=fun q hq=>by
          simp only [List.mem_cons,List.not_mem_nil,or_false] at hq
          rcases hq with rfl|rfl
          · exact iR.out.drew.same Ed 2 2 rfl rfl
          · exact iR.out.drew.same Ed 0 0 rfl rfl
        refine ⟨_, rfl, hS6, ?_⟩
        simp only [Act.put,pa1,pa2,pa3]
        refine aG ?_
        have uf:=Yh Ed
        have hrg:=BM (i:=0) uf.out rfl
        have mG:=Yh (uf.out.row 1 rfl lf.cs)
        have hbk:=uf.out.blk 1 rfl
        clear Ed hb6
        go_wp2_with (first|((with_reducible refine wl_load 418 (.tmp 10) rfl ?_ g 0 lf.cs ?_ hrg ?_ ?_); exact rfl; exact rfl; exact kI lf)|((with_reducible refine wl_store 418 (.tmp 8) (.tmp 58) rfl ?_ g0 418 dS.cs lf.cs ?_ ?_ hbk ?_ ?_ ?_ ?_); exact rfl; exact rfl; exact rfl; exact rfl; exact kI lf; exact vM lf))
        refine bodyPost_ret (v:=.tuple #[.agg lf.cs,.int .i64 (-1)]) (fJ Tryz.results266 _ _ g0 418 _ _ rfl rfl (mG.out.blk 1 rfl) (kI lf)) rfl ?_
        unfold vR;rw [oU.out];exact ⟨rfl,mG.out.drop 2,mG.out.bel⟩
      · rw [if_neg (by rw [he];decide),if_pos he] at oU
        rw [he]
        go_wp2_with fail;refine wp_region_plan_by (SameL [g]) (later_same [g]) [(0,false),(1,false),(2,true),(3,true),(4,false)] (by kernel_rfl) (by kernel_rfl) (fun _ d _ _ _ h=>by cases d <;> exact h) ?_
        refine plan_take (v:=.agg lf.cs) rfl (by kernel_rfl) (fun w' hw'=>uU 418 (.tmp 10) rfl g 0 lf.cs rfl (hw'.blk (by simp) (iR.out.drew.blk 0 rfl)).range (kI lf)) ?_
        simp only [Act.put,pa1,pa2,pa3]
        iterate 1 (refine plan_take (v:=?_) rfl (by kernel_rfl) ?_ ?_;rotate_left;(focus (intro w' hw';try go_simp;try with_reducible rfl));simp only [Act.put,pa1,pa2,pa3])
        refine plan_call rfl (by kernel_rfl) (by go_simp; exact ⟨rfl, rfl⟩) ?_
        refine (PS a _).mono ?_
        rintro e y6 ⟨rfl,rfl⟩;have uf:=Yh (iR.out.drew.step (cZ _ (.cells #[.int .i64 1,.int .i64 5,.int .i64 7] 460)))
        refine ⟨_, rfl, (SameL.ext (cZ _ _) (fun q hq => by simp only [List.mem_singleton] at hq; rw [hq]; exact (iR.out.drew.blk 0 rfl).lt)), ?_⟩
        simp only [Act.put,pa1,pa2,pa3]
        refine plan_turn rfl (by kernel_rfl) (fun K hK=>?_)
        refine yQ 418 (.tmp 8) (.tmp 61) rfl g0 418 dS.cs lf.cs rfl rfl (uf.out.blk 1 rfl) rfl (kI _) (vM _) ?_
        refine hK _ _ ⟨SameL.row _ _ (fun q hq=>by simp only [List.mem_singleton] at hq;rw [hq];exact C9.out),?_⟩
        clear hK K
        (try simp only [Act.put,pa1,pa2,pa3])
        iterate 1 (refine plan_take (v:=?_) rfl (by kernel_rfl) ?_ ?_;rotate_left;(focus (intro w' hw';try go_simp;try with_reducible rfl));simp only [Act.put,pa1,pa2,pa3])
        refine aG ?_
        have mG:=Yh (uf.out.row 1 rfl lf.cs)
        go_wp2_with fail;refine bodyPost_ret (v:=.tuple #[.agg lf.cs,.int .i64 (iq a 1 5 7)]) (fJ Tryz.results266 _ _ g0 418 _ _ rfl rfl (mG.out.blk 1 rfl) (kI lf)) rfl ?_
        unfold vR;rw [oU.out];exact ⟨rfl,mG.out.drop 2,mG.out.bel⟩
      · rw [if_neg he,if_neg he2] at oU
        generalize jO fd=er at *;have hd1:(er==0)=false:=by simpa using he
        have hd2:(er==61)=false:=by simpa using he2
        go_wp2_with fail;refine wp_region_plan_by (SameL [g]) (later_same [g]) [(0,false),(1,false),(2,true),(3,true),(4,false)] (by kernel_rfl) (by kernel_rfl) (fun _ d _ _ _ h=>by cases d <;> exact h) ?_
        refine plan_take (v:=.agg lf.cs) rfl (by kernel_rfl) (fun w' hw'=>uU 418 (.tmp 10) rfl g 0 lf.cs rfl (hw'.blk (by simp) (iR.out.drew.blk 0 rfl)).range (kI lf)) ?_
        simp only [Act.put,pa1,pa2,pa3]
        iterate 1 (refine plan_take (v:=?_) rfl (by kernel_rfl) ?_ ?_;rotate_left;(focus (intro w' hw';try go_simp;try with_reducible rfl));simp only [Act.put,pa1,pa2,pa3])
        refine plan_call rfl (by kernel_rfl) (by go_simp; exact ⟨rfl, rfl⟩) ?_
        refine (PR a _).mono ?_
        rintro e y6 ⟨rfl,rfl⟩;have uf:=Yh (iR.out.drew.step (cZ _ (.cells #[.int .i64 12,.int .i64 13,.int .i64 15] 460)))
        refine ⟨_, rfl, (SameL.ext (cZ _ _) (fun q hq => by simp only [List.mem_singleton] at hq; rw [hq]; exact (iR.out.drew.blk 0 rfl).lt)), ?_⟩
        simp only [Act.put,pa1,pa2,pa3]
        refine plan_turn rfl (by kernel_rfl) (fun K hK=>?_)
        refine yQ 418 (.tmp 8) (.tmp 64) rfl g0 418 dS.cs lf.cs rfl rfl (uf.out.blk 1 rfl) rfl (kI _) (vM _) ?_
        refine hK _ _ ⟨SameL.row _ _ (fun q hq=>by simp only [List.mem_singleton] at hq;rw [hq];exact C9.out),?_⟩
        clear hK K
        (try simp only [Act.put,pa1,pa2,pa3])
        iterate 1 (refine plan_take (v:=?_) rfl (by kernel_rfl) ?_ ?_;rotate_left;(focus (intro w' hw';try go_simp;try with_reducible rfl));simp only [Act.put,pa1,pa2,pa3])
        refine aG ?_
        have mG:=Yh (uf.out.row 1 rfl lf.cs)
        go_wp2_with fail;refine bodyPost_ret (v:=.tuple #[.agg lf.cs,.int .i64 (iq a 12 13 15)]) (fJ Tryz.results266 _ _ g0 418 _ _ rfl rfl (mG.out.blk 1 rfl) (kI lf)) rfl ?_
        unfold vR;rw [oU.out];exact ⟨rfl,mG.out.drop 2,mG.out.bel⟩
  · intro mF
    refine uK ?_ ?_
    focus
      refine pt_opcall (R:=SameL [ub]) rfl (by kernel_rfl) (by go_simp;exact ⟨rfl,rfl⟩) ?_
      refine (HD1.out.PM 2 rfl va u.ak HV.out).mono ?_
      rintro e y2 ⟨rfl,hO,hx⟩;rw [← Ec.out];refine ⟨_,rfl,SameL.ext hx (fun q hq=>by simp only [List.mem_singleton] at hq;rw [hq];exact (HD1.out.blk 1 rfl).lt),?_⟩
      (try simp only [Act.put,pa1,pa2,pa3])
      iterate 3 (refine pt_take (v:=?_) rfl (by kernel_rfl) ?_ ?_;rotate_left;(focus (intro w' hw';try go_simp;try with_reducible rfl));simp only [Act.put,pa1,pa2,pa3])
      refine fB ?_
      refine dw (R:=SameL [ub]) rfl (by kernel_rfl) (fun K hK=>?_)
      go_simp
      refine hK _ _ ⟨SameL.ext (cZ _ _) (fun q hq=>by simp only [List.mem_singleton] at hq;rw [hq];exact (hO.blk 1 rfl).lt),?_⟩
      clear hK K;have hfin:=mF (Eb (.tuple #[.agg (fs.getD dS).cs,.bool fs.isSome]) (.tuple #[.agg (fs.getD dS).cs,.bool fs.isSome]) (.agg (fs.getD dS).cs) (.bool fs.isSome) (.pointer (some ⟨y2.heap.size,0,none⟩))) _ ⟨y2.heap.size,rfl,rfl,rfl,rfl,rfl,hO.push dS.cs 418 rfl⟩
      simp only [fill,Eb,Act.put,List.setIfInBounds_toArray,List.set_cons_zero,List.set_cons_succ] at hfin ⊢
      exact hfin
    focus
      refine dw (R:=SameL [ub]) rfl (by kernel_rfl) (fun K hK=>?_)
      go_simp
      refine hK _ _ ⟨SameL.ext (cZ _ _) (fun q hq=>by simp only [List.mem_singleton] at hq;rw [hq];exact (HD1.out.blk 1 rfl).lt),?_⟩
      clear hK K
      (try simp only [Act.put,pa1,pa2,pa3])
      have HD2:=Yh (HD1.out.push dS.cs 418 rfl)
      refine fB ?_
      refine pt_opcall (R:=SameL [ub]) rfl (by kernel_rfl) (by go_simp;exact ⟨rfl,rfl⟩) ?_
      refine (HD2.out.PM 3 rfl va u.ak HV.out).mono ?_
      rintro e y2 ⟨rfl,hO,hx⟩;rw [← Ec.out];refine ⟨_,rfl,SameL.ext hx (fun q hq=>by simp only [List.mem_singleton] at hq;rw [hq];exact (HD2.out.blk 2 rfl).lt),?_⟩
      (try simp only [Act.put,pa1,pa2,pa3])
      iterate 3 (refine pt_take (v:=?_) rfl (by kernel_rfl) ?_ ?_;rotate_left;(focus (intro w' hw';try go_simp;try with_reducible rfl));simp only [Act.put,pa1,pa2,pa3])
      have hfin:=mF (Eb (.tuple #[.agg (fs.getD dS).cs,.bool fs.isSome]) (.tuple #[.agg (fs.getD dS).cs,.bool fs.isSome]) (.agg (fs.getD dS).cs) (.bool fs.isSome) (.pointer (some ⟨y1.heap.size,0,none⟩))) _ ⟨y1.heap.size,rfl,rfl,rfl,rfl,rfl,hO⟩
      simp only [fill,Eb,Act.put,List.setIfInBounds_toArray,List.set_cons_zero,List.set_cons_succ] at hfin ⊢
      exact hfin
theorem PY (ag va:Nat) (aj:Int):pF ag va aj<18446744073709551616:=by
  unfold pF
  cases hl:gF aj with
  | false=>simp
  | true =>
    rw [if_pos rfl];have hp:ag*4096 % 18446744073709551616<18446744073709551616:=Nat.mod_lt _ (by decide)
    generalize ag * 4096 % 18446744073709551616=p at *;rcases Bu hl with rfl|rfl|rfl
    · rw [show pW 0=4096 by decide];omega
    · rw [show pW 1=2097152 by decide];omega
    · rw [show pW 2=1073741824 by decide];omega
def Tf.zx (l:Tf):Array Value:=#[.bool l.v,.bool l.r,.bool l.w,.bool l.x,.bool l.u,.bool l.g,.bool l.a,.bool l.d,.int .i64 l.au,.int .u64 l.ag]
theorem abg (l:Tf):dO Tryz.prog 268 l.zx.size=true:=by rw [show l.zx.size=10 from rfl];kernel_rfl
theorem abh {w:World} {g:Nat} {l:Tf} (h:w.rangeAt g 0 l.cs.toList):w.rangeAt g 0 l.zx.toList:=fun j v hv=>by
  refine h j v ?_
  have hj:j<10:=by
    rcases Nat.lt_or_ge j 10 with h1|h1
    · exact h1
    · rw [List.getElem?_eq_none (by simpa [Tf.zx] using h1)] at hv;cases hv
  rcases (show j=0∨j=1∨j=2∨j=3∨j=4∨j=5∨j=6∨j=7∨j=8∨j=9 by omega) with rfl|rfl|rfl|rfl|rfl|rfl|rfl|rfl|rfl|rfl <;> exact hv
theorem abj (l:Tf) (va:Nat) (W:World) (hv:va<18446744073709551616) (hl:l.ag<18446744073709551616):
    Calls Tryz.prog 269 #[.agg l.cs,.int .u64 (va:Int)] W fun e w'=>e=.returned (.int .u64 ((pF l.ag va l.aj:Nat):Int))∧Ext W w':=by
  have HV:=Yh hv
  have HL:=Yh hl
  clear hv hl;unfold Tf.cs;go_enter Tryz.func269,Tryz.ntmps269
  go_wp2_with fail;refine (Zu l.ag va l.aj _ HL.out HV.out).mono ?_
  rintro e w' ⟨rfl,rfl⟩
  go_wp2_with fail;go_ret
  exact ⟨rfl,cZ _ _⟩
theorem aa.abk {W w:World} {os:List Oj} {g n:Nat} {S:Nat→List Nat} (h:aa W os w) (i:Nat) (hi:os[i]? = some (eQ g n S)):1≤n∧n≤1048576:=by
  obtain ⟨F,⟨mb,loc,K,hM,_⟩,_⟩:=h.get i _ hi
  exact ⟨hM.n1,hM.n2⟩
def vS (W:World) (ub m b n k mm:Nat) (u:Un) (S:Nat→List Nat) (T:List (List En)) (os:List Oj) (va:Nat) (size a pick:Int) (e:Ending) (w':World):Prop:=
  e=.returned (.tuple #[.int .u64 ((bB n S T u va size a pick).1:Nat),.int .i64 (bB n S T u va size a pick).2.1])∧aa W (fU ub m b n k mm u S (bB n S T u va size a pick).2.2 os) w'∧Below W.heap.size W w'
theorem abl {l:Tf} (h:oI l):l.ag<18446744073709551616:=by
  have:=BP h.2.1
  omega
theorem PZ (ub m b n k mm:Nat) (u:Un) (S:Nat→List Nat) (T:List (List En)) (os:List Oj) (va:Nat) (size a pick:Int) (W w:World) (hv:va<18446744073709551616) (hp:-9223372036854775808≤pick∧pick<9223372036854775808) (hu:u.Ok)
    (h:aa W (fU ub m b n k mm u S T os) w):
    Calls Tryz.prog 218 #[.pointer (some ⟨ub,0,none⟩),.int .u64 va,.int .i64 size,.int .i64 a,.int .i64 pick] w (vS W ub m b n k mm u S T os va size a pick):=by
  have HO:=Yh h
  have HV:=Yh hv
  have o8:=Yh (abe (n:=n) (S:=S) (u:=u) (va:=va) (a:=a) (pick:=pick) (h.aaT 1 rfl).2)
  have Ee:=Yh (abf ub m b n k mm u S T os va a pick W w hv hp hu h)
  have HN:=Yh (h.abk 2 rfl).2
  clear h hp hu hv
  cases hal:fC va size with
  | false =>
    have lV:Hid (bB n S T u va size a pick=(0,iq a 0 4 6,T)):=Yh (by unfold bB;rw [hal];rfl)
    have bX:=Yh hal
    clear hal;go_enter Tryz.func218,Tryz.ntmps218
    go_wp2_with fail;refine (Gt va size _ HV.out).mono ?_
    rintro e w1 ⟨rfl,rfl⟩;rw [bX.out]
    go_wp2_with fail;refine (aa7 a _).mono ?_
    rintro e w1 ⟨rfl,rfl⟩
    go_wp2_with fail
    go_ret2
    unfold vS;rw [lV.out];have ho:=HO.out.step (cZ _ (.cells #[.int .i64 0,.int .i64 4,.int .i64 6] 460))
    exact ⟨rfl,ho,ho.bel⟩
  | true =>
    obtain ⟨lf,c,T',hL⟩:∃ lf c T',dR n S T u va a pick=(lf,c,T'):=⟨_,_,_,rfl⟩
    have lV:Hid (bB n S T u va size a pick=if c = -1 then (if yC lf.v lf.r lf.w lf.x lf.u lf.a lf.d a u.user u.sum u.iG then (if pF lf.ag va lf.aj / 4096<n then (pF lf.ag va lf.aj,-1,T') else (0,iq a 1 5 7,T')) else (0,iq a 12 13 15,T')) else (0,c,T')):=Yh (by unfold bB;rw [hal,hL];rfl)
    unfold vR at Ee;rw [hL] at Ee o8;have bX:=Yh hal
    clear hal hL;go_enter Tryz.func218,Tryz.ntmps218
    go_wp2_with fail;refine (Gt va size _ HV.out).mono ?_
    rintro e w1 ⟨rfl,rfl⟩;rw [bX.out]
    go_wp2_with fail;refine Ee.out.mono ?_
    rintro e w1 ⟨rfl,iW,hb1⟩;have dL:=Yh (iW.push lf.cs 418 rfl)
    clear iW hb1 HO Ee;by_cases hc:c = -1
    · subst hc
      rw [if_pos rfl] at lV
      go_wp2_with ((with_reducible refine wl_store_new 418 (.tmp 12) (.tmp 31) rfl ?_ w1 (World.heap w1).size 418 dS.cs lf.cs ?_ ?_ ?_ ?_ ?_ ?_ ?_ ?_); exact rfl; exact rfl; exact rfl; exact rfl; exact rfl; exact rfl; exact kI lf; exact vM lf)
      refine Ep (fun w2 hw2=>?_)
      have dY:Hid (aa W (ae w1.heap.size 418 lf.cs::fU ub m b n k mm u S T' os) w2):=Yh (by rw [hw2];exact dL.out)
      clear hw2 dL;generalize w1.heap.size=g at *;have s5:∀ W',SameL [ub,g] w2.drew W'→W'.cell? ⟨ub,5,none⟩=some (.bool u.user):=fun W' h=>h.cell (by simp) ((dY.out.drew.blk 1 rfl).cell 5)
      have s6:∀ W',SameL [ub,g] w2.drew W'→W'.cell? ⟨ub,6,none⟩=some (.bool u.sum):=fun W' h=>h.cell (by simp) ((dY.out.drew.blk 1 rfl).cell 6)
      have s7:∀ W',SameL [ub,g] w2.drew W'→W'.cell? ⟨ub,7,none⟩=some (.bool u.iG):=fun W' h=>h.cell (by simp) ((dY.out.drew.blk 1 rfl).cell 7)
      refine wp_region_plan_by (SameL [ub,g]) (later_same [ub,g]) [(0,false),(1,false),(2,false),(3,false),(4,false),(5,false),(6,false),(7,true),(8,false)] (by kernel_rfl) (by kernel_rfl) (fun _ d _ _ _ h=>by cases d <;> exact h) ?_
      iterate 1 (refine plan_take (v:=?_) rfl (by kernel_rfl) ?_ ?_;rotate_left;(focus (intro w' hw';try go_simp;try with_reducible rfl));simp only [Act.put,pa1,pa2,pa3])
      refine plan_take (v:=.agg lf.zx) rfl (by kernel_rfl) (fun w' hw'=>uU 268 (.tmp 36) rfl g 0 lf.zx rfl (abh (hw'.blk (by simp) (dY.out.drew.blk 0 rfl)).range) (abg lf)) ?_
      simp only [Act.put,pa1,pa2,pa3]
      iterate 5 (refine plan_take (v:=?_) rfl (by kernel_rfl) ?_ ?_;rotate_left;(focus (intro w' hw';try go_simp;try with_reducible rfl));simp only [Act.put,pa1,pa2,pa3])
      clear s5 s6 s7;have HD2:=Yh dY.out.drew
      generalize w2.drew=y2 at HD2 ⊢;clear dY
      refine plan_call rfl (by kernel_rfl) (by go_simp; exact ⟨rfl, rfl⟩) ?_
      refine (aaV lf.v lf.r lf.w lf.x lf.u lf.g lf.a lf.d lf.au lf.ag a u.user u.sum u.iG _).mono ?_
      rintro e y3 ⟨rfl,hb3⟩;have oH:SameL [ub,g] y2 y3:=SameL.ext hb3 (fun q hq=>by
          simp only [List.mem_cons,List.not_mem_nil,or_false] at hq
          rcases hq with rfl|rfl
          · exact (HD2.out.blk 1 rfl).lt
          · exact (HD2.out.blk 0 rfl).lt)
      have iF:=Yh (HD2.out.step hb3)
      refine ⟨_, rfl, oH, ?_⟩
      simp only [Act.put,pa1,pa2,pa3]
      clear hb3 HD2
      cases hck:yC lf.v lf.r lf.w lf.x lf.u lf.a lf.d a u.user u.sum u.iG with
      | false =>
        rw [hck,if_neg (by decide)] at lV
        iterate 1 (refine plan_take (v:=?_) rfl (by kernel_rfl) ?_ ?_;rotate_left;(focus (intro w' hw';try go_simp;try with_reducible rfl));simp only [Act.put,pa1,pa2,pa3])
        refine aG ?_
        go_wp2_with fail;refine (PR a _).mono ?_
        rintro e w4 ⟨rfl,rfl⟩;have lH:=Yh (iF.out.step (cZ _ (.cells #[.int .i64 12,.int .i64 13,.int .i64 15] 460)))
        go_wp2_with fail
        go_ret2
        unfold vS;rw [lV.out];exact ⟨rfl,lH.out.drop 1,lH.out.bel⟩
      | true =>
        rw [hck,if_pos rfl] at lV;clear hck
        iterate 1 (refine plan_take (v:=?_) rfl (by kernel_rfl) ?_ ?_;rotate_left;(focus (intro w' hw';try go_simp;try with_reducible rfl));simp only [Act.put,pa1,pa2,pa3])
        refine aG ?_
        have hrg:=BM (i:=0) iF.out rfl
        go_wp2_with ((with_reducible refine wl_load 418 (.tmp 12) rfl ?_ g 0 lf.cs ?_ hrg ?_ ?_); exact rfl; exact rfl; exact kI lf)
        refine (abj lf va _ HV.out (abl o8.out)).mono ?_
        rintro e w4 ⟨rfl,hx4⟩;have lH:=Yh (iF.out.step hx4)
        have tL:Hid (pF lf.ag va lf.aj<18446744073709551616):=Yh (PY _ _ _)
        generalize pF lf.ag va lf.aj=at_ at *;obtain ⟨q,hq⟩:∃ q,q=at_ / 4096:=⟨_,rfl⟩
        rw [← hq] at lV;have hqd:(at_:Int) / 4096=(q:Int):=by rw [hq];rfl
        have hq2:q<4503599627370496:=by have:=tL.out;omega
        clear hq hrg hx4;have c0:=(lH.out.blk 1 rfl).cell 0
        rw [I8] at c0;have zw:=(lH.out.blk 1 rfl).lt
        have hnw:IntKind.u64.wrap (n:Int)=(n:Int):=by have:=HN.out;rw [IntKind.wrap_u64];omega
        go_wp2_with fail;refine (lH.out.aaP 3 rfl).mono ?_
        rintro e w5 ⟨rfl,rfl⟩;by_cases hlt:q<n
        · rw [if_pos hlt] at lV
          have hg:decide ((n:Int)≤(q:Int))=false:=by simp only [decide_eq_false_iff_not];omega
          go_wp2_with fail
          go_ret2
          unfold vS;rw [lV.out];exact ⟨rfl,lH.out.drop 1,lH.out.bel⟩
        · rw [if_neg hlt] at lV
          have hg:decide ((n:Int)≤(q:Int))=true:=by simp only [decide_eq_true_eq];omega
          go_wp2_with fail;refine (PS a _).mono ?_
          rintro e w6 ⟨rfl,rfl⟩;have iR:=Yh (lH.out.step (cZ _ (.cells #[.int .i64 1,.int .i64 5,.int .i64 7] 460)))
          go_wp2_with fail
          go_ret2
          unfold vS;rw [lV.out];exact ⟨rfl,iR.out.drop 1,iR.out.bel⟩
    · rw [if_neg hc] at lV
      have hc2:(c == -1)=false:=by simpa using hc
      go_wp2_with ((with_reducible refine wl_store_new 418 (.tmp 12) (.tmp 31) rfl ?_ w1 (World.heap w1).size 418 dS.cs lf.cs ?_ ?_ ?_ ?_ ?_ ?_ ?_ ?_); exact rfl; exact rfl; exact rfl; exact rfl; exact rfl; exact rfl; exact kI lf; exact vM lf)
      go_ret2
      unfold vS;rw [lV.out];exact ⟨rfl,dL.out.drop 1,dL.out.bel⟩
section
variable {n k m va:Nat} {S:Nat→List Nat} {T:List (List En)} {u:Un} {a pick size:Int}
theorem P5:(bB n S T u va size a pick).1<18446744073709551616:=by
  unfold bB
  split
  · split
    · split
      · split
        · exact PY _ _ _
        · simp
      · simp
    · simp
  · simp
end
def fZ (n:Nat) (S:Nat→List Nat) (p:Nat × Int × List (List En)) (size:Int):Nat:=if p.2.1 = -1 then aY n S p.1 size else 0
def qG (n:Nat) (S:Nat→List Nat) (p:Nat × Int × List (List En)) (size:Int) (v:Nat):Nat→List Nat:=if p.2.1 = -1 then bH n S p.1 size v else S
section
variable (ub m b n k mm:Nat) (u:Un) (S:Nat→List Nat) (T:List (List En)) (os:List Oj) (va:Nat) (size a pick:Int) (W w:World)
theorem P6 (hv:va<18446744073709551616) (hp:-9223372036854775808≤pick∧pick<9223372036854775808) (hu:u.Ok) (h:aa W (fU ub m b n k mm u S T os) w):
    Calls Tryz.prog 172 #[.pointer (some ⟨ub,0,none⟩),.int .u64 va,.int .i64 size,.int .i64 a,.int .i64 pick] w fun e w' =>
      e=.returned (.tuple #[.int .u64 (fZ n S (bB n S T u va size a pick) size:Nat),.int .i64 (bB n S T u va size a pick).2.1])∧aa W (fU ub m b n k mm u S (bB n S T u va size a pick).2.2 os) w'∧Below W.heap.size W w':=by
  have HP:=Yh (PZ ub m b n k mm u S T os va size a pick W w hv hp hu h)
  have tL:=Yh (P5 (n:=n) (S:=S) (T:=T) (u:=u) (va:=va) (size:=size) (a:=a) (pick:=pick))
  unfold vS at HP;generalize bB n S T u va size a pick=p at *;obtain ⟨at_,c,T'⟩:=p
  clear h hp hu hv;have mO:Hid (fZ n S (at_,c,T') size=if c = -1 then aY n S at_ size else 0):=Yh rfl
  generalize fZ n S (at_,c,T') size=r at *;simp only at HP tL ⊢
  go_enter Tryz.func172,Tryz.ntmps172
  go_wp2_with fail;refine HP.out.mono ?_
  rintro e w1 ⟨rfl,iW,hb1⟩;have dL:=Yh iW
  clear hb1 iW;by_cases hc:c = -1
  · subst hc
    rw [if_pos rfl] at mO;have c0:=(dL.out.blk 0 rfl).cell 0
    rw [I8] at c0;have zw:=(dL.out.blk 0 rfl).lt
    go_wp2_with fail;refine (dL.out.aaO 2 rfl at_ size tL.out).mono ?_
    rintro e w2 ⟨rfl,rfl⟩;rw [← mO.out]
    go_wp2_with fail
    go_ret2
    exact ⟨rfl,dL.out,dL.out.bel⟩
  · rw [if_neg hc] at mO
    have hc2:(c == -1)=false:=by simpa using hc
    go_wp2_with fail
    go_ret2
    exact ⟨by rw [mO.out];rfl,dL.out,dL.out.bel⟩
theorem Us (hv:va<18446744073709551616) (hp:-9223372036854775808≤pick∧pick<9223372036854775808) (hu:u.Ok) (h:aa W (fU ub m b n k mm u S T os) w):
    Calls Tryz.prog 220 #[.pointer (some ⟨ub,0,none⟩),.int .u64 va,.int .i64 size,.int .i64 pick] w fun e w' =>
      e=.returned (.tuple #[.int .u64 (fZ n S (bB n S T u va size 1 pick) size:Nat),.int .i64 (bB n S T u va size 1 pick).2.1])∧aa W (fU ub m b n k mm u S (bB n S T u va size 1 pick).2.2 os) w'∧Below W.heap.size W w':=by
  have HP:=Yh (P6 ub m b n k mm u S T os va size 1 pick W w hv hp hu h)
  generalize bB n S T u va size 1 pick=p at *;obtain ⟨at_,c,T'⟩:=p
  generalize fZ n S (at_,c,T') size=r at *;clear h hp hu hv;simp only at HP ⊢
  go_enter Tryz.func220,Tryz.ntmps220
  go_wp2_with fail;refine HP.out.mono ?_
  rintro e w1 ⟨rfl,iW,hb1⟩
  go_wp2_with fail
  go_ret2
  exact ⟨rfl,iW,hb1⟩
theorem UD (hv:va<18446744073709551616) (hp:-9223372036854775808≤pick∧pick<9223372036854775808) (hu:u.Ok) (h:aa W (fU ub m b n k mm u S T os) w):
    Calls Tryz.prog 129 #[.pointer (some ⟨ub,0,none⟩),.int .u64 va,.int .i64 pick] w fun e w' =>
      e=.returned (.tuple #[.int .u64 (fZ n S (bB n S T u va 4 0 pick) 4:Nat),.int .i64 (bB n S T u va 4 0 pick).2.1])∧aa W (fU ub m b n k mm u S (bB n S T u va 4 0 pick).2.2 os) w'∧Below W.heap.size W w':=by
  have HP:=Yh (P6 ub m b n k mm u S T os va 4 0 pick W w hv hp hu h)
  generalize bB n S T u va 4 0 pick=p at *;obtain ⟨at_,c,T'⟩:=p
  generalize fZ n S (at_,c,T') 4=r at *;clear h hp hu hv;simp only at HP ⊢
  go_enter Tryz.func129,Tryz.ntmps129
  go_wp2_with fail;refine HP.out.mono ?_
  rintro e w1 ⟨rfl,iW,hb1⟩
  go_wp2_with fail
  go_ret2
  exact ⟨rfl,iW,hb1⟩
theorem Ut (v:Nat) (hv:va<18446744073709551616) (hvv:v<18446744073709551616) (hp:-9223372036854775808≤pick∧pick<9223372036854775808) (hu:u.Ok) (h:aa W (fU ub m b n k mm u S T os) w):
    Calls Tryz.prog 221 #[.pointer (some ⟨ub,0,none⟩),.int .u64 va,.int .i64 size,.int .u64 v,.int .i64 pick] w fun e w' =>
      e=.returned (.int .i64 (bB n S T u va size 2 pick).2.1)∧aa W (fU ub m b n k mm u (qG n S (bB n S T u va size 2 pick) size v) (bB n S T u va size 2 pick).2.2 os) w'∧Below W.heap.size W w':=by
  have HP:=Yh (PZ ub m b n k mm u S T os va size 2 pick W w hv hp hu h)
  have tL:=Yh (P5 (n:=n) (S:=S) (T:=T) (u:=u) (va:=va) (size:=size) (a:=2) (pick:=pick))
  have wN:=Yh hvv
  unfold vS at HP;generalize bB n S T u va size 2 pick=p at *;obtain ⟨at_,c,T'⟩:=p
  clear h hp hu hv hvv;have mO:Hid (qG n S (at_,c,T') size v=if c = -1 then bH n S at_ size v else S):=Yh rfl
  generalize qG n S (at_,c,T') size v=S' at *;simp only at HP tL ⊢
  go_enter Tryz.func221,Tryz.ntmps221
  go_wp2_with fail;refine HP.out.mono ?_
  rintro e w1 ⟨rfl,iW,hb1⟩;have dL:=Yh iW
  clear hb1 iW;by_cases hc:c = -1
  · subst hc
    rw [if_pos rfl] at mO;have c0:=(dL.out.blk 0 rfl).cell 0
    rw [I8] at c0;have zw:=(dL.out.blk 0 rfl).lt
    go_wp2_with fail;refine (dL.out.Ma 2 rfl at_ size v tL.out wN.out).mono ?_
    rintro e w2 ⟨rfl,hO2,hb2⟩
    go_wp2_with fail;go_ret
    refine ⟨rfl,?_,hO2.bel⟩
    rw [mO.out];exact hO2
  · rw [if_neg hc] at mO
    have hc2:(c == -1)=false:=by simpa using hc
    go_wp2_with fail;go_ret
    refine ⟨rfl,?_,dL.out.bel⟩
    rw [mO.out];exact dL.out
end
section
variable (ub m b n k mm:Nat) (u:Un) (S:Nat→List Nat) (T:List (List En)) (os:List Oj) (va:Nat) (size a pick:Int) (W w:World)
def BN (x:Nat):Bool:=x / 1152921504606846976==0||x / 1152921504606846976==8
def Un.wD (u:Un) (x:Nat):Un:=if BN x then {u with on:=x / 1152921504606846976==8,ak:=((x / 17592186044416 % 65536:Nat):Int),ag:=x % 17592186044416} else u
theorem SL (x:Nat) (hx:x<18446744073709551616) (h:aa W (fU ub m b n k mm u S T os) w):
    Calls Tryz.prog 76 #[.pointer (some ⟨ub,0,none⟩),.int .u64 x] w fun e w'=>e=.returned (.bool (BN x))∧aa W (fU ub m b n k mm (u.wD x) S T os) w':=by
  have HO:=Yh h
  clear h
  cases hs:BN x with
  | false =>
    have HN:Hid (x / 1152921504606846976≠0∧x / 1152921504606846976≠8):=Yh (by simp only [BN,Bool.or_eq_false_iff,beq_eq_false_iff_ne] at hs;exact hs)
    have HU:Hid (u.wD x=u):=Yh (by unfold Un.wD;rw [hs];rfl)
    have HX:=Yh hx
    clear hs hx;go_enter Tryz.func76,Tryz.ntmps76
    go_wp2_with fail;refine (ZM x _ HN.out.1 HN.out.2).mono ?_
    rintro e w1 ⟨rfl,hb1⟩;have ho:=(HO.out.step hb1).step (cZ _ (.cells #[.bool false,.int .i64 0,.int .u64 0] 190))
    have dL:=Yh ho
    clear ho hb1
    go_wp2_with fail;go_ret
    exact ⟨rfl,by rw [HU.out];exact dL.out⟩
  | true =>
    obtain ⟨bb,hbb⟩:∃ bb,bb=(x / 1152921504606846976==8):=⟨_,rfl⟩
    have HN:Hid ((bb=false∧x / 1152921504606846976=0)∨(bb=true∧x / 1152921504606846976=8)):=Yh (by
      simp only [BN,Bool.or_eq_true,beq_iff_eq] at hs
      rcases hs with h|h
      · exact .inl ⟨by rw [hbb,h];rfl,h⟩
      · exact .inr ⟨by rw [hbb,h];rfl,h⟩)
    have HU:Hid (u.wD x = {u with on:=bb,ak:=((x / 17592186044416 % 65536:Nat):Int),ag:=x % 17592186044416}):=Yh (by unfold Un.wD;rw [hs,if_pos rfl,hbb])
    have HX:=Yh hx
    have HG:=Yh (fun W=>ZL x bb W HX.out HN.out)
    clear hs hx hbb HN;generalize x / 17592186044416 % 65536=ak at *;generalize x % 17592186044416=ag at *;go_enter Tryz.func76,Tryz.ntmps76
    go_wp2_with fail;refine (HG.out _).mono ?_
    rintro e w1 ⟨rfl,hb1⟩;have ho:=(HO.out.step hb1).step (cZ _ (.cells #[.bool bb,.int .i64 (ak:Int),.int .u64 (ag:Int)] 190))
    have dL:=Yh ho
    have hbk:=ho.blk 0 rfl
    have d2:=hbk.cell 2
    have d3:=hbk.cell 3
    have d4:=hbk.cell 4
    rw [un2] at d2;rw [un3] at d3;rw [un4] at d4;have zw:=hbk.lt
    have hfr:=fun i=>Blk.frozen hbk i
    clear ho hb1 hbk
    go_wp2_with fail;go_ret
    refine ⟨rfl,?_⟩
    rw [HU.out];exact ((dL.out.ay 0 rfl 2 (.bool bb)).ay 0 rfl 3 (.int .i64 (ak:Int))).ay 0 rfl 4 (.int .u64 (ag:Int))
theorem SN (x y z:Bool) (h:aa W (fU ub m b n k mm u S T os) w):
    Calls Tryz.prog 79 #[.pointer (some ⟨ub,0,none⟩),.agg #[.bool x,.bool y,.bool z]] w fun e w'=>e=.returned (.tuple #[])∧aa W (fU ub m b n k mm {u with user:=x,sum:=y,iG:=z} S T os) w':=by
  have HO:=Yh (h.step (cZ _ (.cells #[.bool x,.bool y,.bool z] 193)))
  have hbk:=HO.out.blk 0 rfl
  have d5:=hbk.cell 5
  have d6:=hbk.cell 6
  have d7:=hbk.cell 7
  change _=some (Value.bool u.user) at d5
  change _=some (Value.bool u.sum) at d6
  change _=some (Value.bool u.iG) at d7
  have zw:=hbk.lt
  have hfr:=fun i=>Blk.frozen hbk i
  clear h hbk;go_enter Tryz.func79,Tryz.ntmps79
  go_wp2_with fail;refine bodyPost_end (results_none rfl _ _ _) rfl ?_
  refine ⟨rfl,?_⟩
  exact ((HO.out.ay 0 rfl 5 (.bool x)).ay 0 rfl 6 (.bool y)).ay 0 rfl 7 (.bool z)
theorem Sk (vo:Option Nat) (ao:Option Int) (V A:Value) (hv:∀ va,vo=some va→va<18446744073709551616) (hV:nC w vo V) (hA:oF w ao A) (h:aa W (fU ub m b n k mm u S T os) w):
    Calls Tryz.prog 237 #[.pointer (some ⟨ub,0,none⟩),V,A] w fun e w'=>e=.returned (.int .i64 (vH T vo ao:Nat))∧aa W (fU ub m b n k mm u S (gU T vo ao) os) w':=by
  have HO:=Yh h
  have HC:=Yh (h.aaS 1 rfl vo ao V A hv hV hA)
  have hbk:=h.blk 0 rfl
  have d1:=hbk.cell 1
  rw [un1] at d1;have zw:=hbk.lt
  clear h hbk hV hA;go_enter Tryz.func237,Tryz.ntmps237
  go_wp2_with fail;refine HC.out.mono ?_
  rintro e w1 ⟨rfl,iW,hb1⟩
  go_wp2_with fail;go_ret
  exact ⟨rfl,iW⟩
def dm:Un:=⟨false,0,0,false,false,false⟩
theorem Ap:Calls Tryz.prog 72 #[.pointer (some ⟨m,0,none⟩),.pointer (some ⟨b,0,none⟩)] w fun e w'=>e=.returned (.pointer (some ⟨w.heap.size,0,none⟩))∧w.alloc (.cells (dm.cs m b) 258)=w':=by
  go_enter Tryz.func72,Tryz.ntmps72
  go_wp2_with fail;go_ret
  exact ⟨rfl,rfl⟩
end
section
variable (xb rm rb n k mm:Nat) (u:Un) (S:Nat→List Nat) (T:List (List En)) (os:List Oj) (va:Nat) (size a pick:Int) (W w:World)
end
theorem TG.empty {n m:Nat} (h:qB n m=true):TG (iE n m) n m:=⟨oJ.empty h,oK.empty n m⟩
theorem aa.SF {W w:World} {os:List Oj} (h:aa W os w) (n m:Nat) (hr:qB n m=true):
    Calls Tryz.prog 71 #[.int .i64 (n:Int),.int .i64 (m:Int)] w fun e w'=>e=.returned (.tuple #[.pointer (some ⟨w.heap.size,0,none⟩),.int .i64 0])∧aa W (gH w.heap.size n m (iE n m)::os) w'∧Ext w w':=by
  refine (aaw n m w hr).mono ?_
  rintro e w' ⟨rfl,hn⟩;have hk:=TG.empty hr
  obtain ⟨gs,Gb,h1,h2,h3⟩:=aax (Nat.le_refl _) hk.1.n0 hn
  refine ⟨rfl,h.add (F:=fun b=>pX w.heap.size gs Gb n b) h3 ⟨hk,⟨gs,Gb,h1,fun b hb=>hb⟩,fun b hb=>?_⟩ h2,h3⟩
  exact h1.lt b (by rw [hk.1.len];exact hb)
end Go.Proofs.YtnebdlchogmneaaGreatDoor
namespace Go.Proofs.YtnebdlchogmneaaGreatDoor
open Go.RowKit Go.Maps
theorem Cn {f:Int} (h:-9223372036854775808≤f∧f≤9223372036854775807):(Lit.int .i64 f).wf=true:=by
  simp [Lit.wf,IntKind.min,IntKind.max,IntKind.signed,IntKind.bits];omega
def SV.pop (s:SV) (gs:List Int) (f:Int):SV:=⟨s.first,s.next,s.end_,gs,f::s.taken⟩
def SV.fresh (s:SV):SV:=⟨s.first,s.next+1,s.end_,s.given,s.next::s.taken⟩
def SV.back (s:SV) (f:Int):SV:=⟨s.first,s.next,s.end_,s.given++[f],s.taken.erase f⟩
theorem QD (sb:Nat) (F:Nat→Prop) (s:SV) (gs:List Int) (f:Int) (W:World) (h:jW W sb F s) (hg:s.given=gs++[f]) (hf:(Lit.int .i64 f).wf=true) (hnt:f∉s.taken) (hmax:s.taken.length≤1048576) (hlen:gs.length≤1048576):
    Calls Tryz.prog 122 #[.pointer (some ⟨sb,0,none⟩)] W fun e w'=>e=.returned (.tuple #[.int .i64 f,.int .i64 0])∧jW w' sb F (s.pop gs f)∧az F W w':=by
  obtain ⟨v,bm,hb,ho,hm,fs,fm,fv,fb⟩:=h
  rw [hg,List.length_append,List.map_append] at ho;obtain ⟨g,cap,hv,_,hlt⟩:=ho.form (by simp)
  subst hv;have hcap:gs.length≤cap:=by
    rcases ho.2 with ⟨h0,_⟩|⟨g',cap',cur,h1,_,_,h3,_⟩
    · cases h0
    · injection h1 with _ _ h1;subst h1;simp at h3;omega
  have hcap2:gs.length+1≤cap:=by
    rcases ho.2 with ⟨h0,_⟩|⟨g',cap',cur,h1,_,_,h3,_⟩
    · cases h0
    · injection h1 with _ _ h1;subst h1;simpa using h3
  have c3:W.cell? ⟨sb,3,none⟩=some (.slice (some ⟨g,0,none⟩) (gs.length+1) cap):=hb.cell 3
  have c4:W.cell? ⟨sb,4,none⟩=some (.map (some bm)):=hb.cell 4
  have f3:=hb.frozen 3
  have cm:W.cell? ⟨g,gs.length,none⟩=some (.int .i64 f):=by
    rw [ho.cellAt gs.length (by simp),List.getElem?_append_right (by simp)];simp [iv]
  have hrow:W.ownsRow 0 3 1 (.slice (some ⟨g,0,none⟩) gs.length cap) gs.length (gs.map iv):=ownsRow_pop (last:=[f].map iv) (by simp) ho
  have Ef:g≠sb:=fun e=>mM ho hb (by decide) (by simp [Value.ownBlock,e])
  have Eg:g≠bm:=fun e=>by
    obtain ⟨_,D,hD,_⟩:=hm
    exact Gw ho hD (by simp [Value.ownBlock,e])
  have ma:bm≠sb:=by
    obtain ⟨_,D,hD,_⟩:=hm
    exact Gv hD hb
  have K0:=(az.refl (fun k=>k=sb∨k=bm) W).setCell (p:=⟨sb,3,none⟩) (.inl (.inl rfl)) (.slice (some ⟨g,0,none⟩) gs.length cap)
  have nJ:=Yh (hm.keeps ((az.refl (fun k=>k=sb) W).setCell (p:=⟨sb,3,none⟩) (.inl rfl) (.slice (some ⟨g,0,none⟩) gs.length cap)) ma)
  have HB:=Yh hb
  have HR:=Yh hrow
  have HK:=Yh K0
  have HN:=Yh (And.intro Ef (And.intro Eg ma))
  have HF:=Yh (And.intro fs (And.intro fm (And.intro fv fb)))
  have HM:=Yh (show s.taken.length<maxLen by unfold maxLen;omega)
  have xJ:=Yh hnt
  have HW:=Yh hf
  clear ho hb hm hrow K0 fs fm fv fb hg hnt hf hmax Ef Eg ma;go_enter Tryz.func122,Tryz.ntmps122
  go_wp2_with (at_mapUpdate;refine OI _ rfl _ _ _ rfl bm s.taken f rfl rfl rfl nJ.out HW.out xJ.out HM.out ?_;intro w1 hset hgrow;have HS:=Yh hset;have HG:=Yh hgrow;clear hset hgrow)
  go_ret2
  have K1:=HK.out.grown HG.out (fun k hk=>by injection hk with hk;exact .inl (.inr hk.symm))
  obtain ⟨fs,fm,fv,fb⟩:=HF.out
  obtain ⟨Ef,Eg,ma⟩:=HN.out
  refine ⟨rfl,⟨_,bm,(HB.out.ay 3 _).grown HG.out (by intro e;injection e with e;exact ma e.symm),K1.row HR.out (fun k hk=>by
    have:g=k:=by simpa [Value.ownBlock] using hk
    subst this;rintro (e|e)
    · exact Ef e
    · exact Eg e),HS.out,fs,fm,fun k hk=>fv k (by simpa [Value.ownBlock] using hk),fun k hk=>Nat.lt_of_lt_of_le (fb k hk) K1.size⟩,K1.mono (fun k hk=>by rcases hk with rfl|rfl <;> assumption)⟩
theorem Jv (sb:Nat) (F:Nat→Prop) (s:SV) (W:World) (h:jW W sb F s) (hg:s.given = []) (h0:0≤s.next) (h1:s.next<s.end_) (h2:s.end_≤1048576) (hnt:s.next∉s.taken) (hmax:s.taken.length≤1048576):
    Calls Tryz.prog 122 #[.pointer (some ⟨sb,0,none⟩)] W fun e w'=>e=.returned (.tuple #[.int .i64 s.next,.int .i64 0])∧jW w' sb F s.fresh∧az F W w':=by
  obtain ⟨v,bm,hb,ho,hm,fs,fm,fv,fb⟩:=h
  obtain ⟨A,c,rfl⟩:=Df ho
  have c1:W.cell? ⟨sb,1,none⟩=some (.int .i64 s.next):=hb.cell 1
  have c2:W.cell? ⟨sb,2,none⟩=some (.int .i64 s.end_):=hb.cell 2
  have c3:W.cell? ⟨sb,3,none⟩=some (.slice A 0 c):=by rw [hb.cell 3,hg];rfl
  have c4:W.cell? ⟨sb,4,none⟩=some (.map (some bm)):=hb.cell 4
  have f1:=hb.frozen 1
  have hl:=hb.lt
  have ma:bm≠sb:=by
    obtain ⟨_,D,hD,_⟩:=hm
    exact Gv hD hb
  have p9:∀ k,(Value.slice A s.given.length c).ownBlock=some k→k≠sb∧k≠bm:=fun k hk=>⟨fun e=>mM ho hb (by decide) (by rw [hk,e]),fun e=>by
    obtain ⟨_,D,hD,_⟩:=hm
    exact Gw ho hD (by rw [hk,e])⟩
  have K0:=((az.refl (fun k=>k=sb∨k=bm) W).drew).setCell (p:=⟨sb,1,none⟩) (.inl (.inl rfl)) (.int .i64 (s.next+1))
  have nJ:=Yh (hm.keeps (((az.refl (fun k=>k=sb) W).drew).setCell (p:=⟨sb,1,none⟩) (.inl rfl) (.int .i64 (s.next+1))) ma)
  have HB:=Yh hb
  have HR:=Yh ho
  have HK:=Yh K0
  have HN:=Yh (And.intro p9 ma)
  have HF:=Yh (And.intro fs (And.intro fm (And.intro fv fb)))
  have HM:=Yh (show s.taken.length<maxLen by unfold maxLen;omega)
  have xJ:=Yh hnt
  have HW:=Yh (Cn (f:=s.next) (by omega))
  have HV:Hid (s.fresh=s.fresh):=Yh rfl
  have e1:decide (s.next<s.end_)=true:=by simpa using h1
  have h3:s.next≤1048576:=by omega
  have hw1:IntKind.i64.wrap (s.next+1)=s.next+1:=IntWalk.i64_in _ (by omega)
  clear ho hb hm K0 fs fm fv fb hg hnt hmax p9 ma h1 h2;go_enter Tryz.func122,Tryz.ntmps122
  go_wp2_with fail;have s1:=fun W' (h:Ext W.drew W')=>(h.cell (p:=⟨sb,1,none⟩) hl).trans c1
  have s2:=fun W' (h:Ext W.drew W')=>(h.cell (p:=⟨sb,2,none⟩) hl).trans c2
  refine wp_region_plan [(0, false), (1, false), (2, false), (3, false), (4, false), (5, false), (6, false), (7, false), (8, false), (9, false)] (by kernel_rfl) (by kernel_rfl) (fun _ d _ _ _ h => by cases d <;> exact h) ?_
  iterate 10 (refine plan_take (v:=?_) rfl (by kernel_rfl) ?_ ?_;rotate_left;(focus (intro w' hw';try go_simp;try with_reducible rfl));simp only [Act.put,pa1,pa2,pa3])
  clear s1 s2;refine aG ?_
  go_wp2_with (at_mapUpdate;refine OI _ rfl _ _ _ rfl bm s.taken s.next rfl rfl rfl nJ.out HW.out xJ.out HM.out ?_;intro w1 hset hgrow;have HS:=Yh hset;have HG:=Yh hgrow;clear hset hgrow)
  go_ret2
  have K1:=HK.out.grown HG.out (fun k hk=>by injection hk with hk;exact .inl (.inr hk.symm))
  obtain ⟨fs,fm,fv,fb⟩:=HF.out
  obtain ⟨p9,ma⟩:=HN.out
  refine ⟨rfl,⟨_,bm,(HB.out.drew.ay 1 _).grown HG.out (by intro e;injection e with e;exact ma e.symm),K1.row HR.out (fun k hk=>by
    rintro (e|e)
    · exact (p9 k hk).1 e
    · exact (p9 k hk).2 e),HS.out,fs,fm,fv,fun k hk=>Nat.lt_of_lt_of_le (fb k hk) K1.size⟩,K1.mono (fun k hk=>by rcases hk with rfl|rfl <;> assumption)⟩
theorem QC (sb:Nat) (F:Nat→Prop) (s:SV) (W:World) (h:jW W sb F s) (hg:s.given = []) (h1:¬ s.next<s.end_):
    Calls Tryz.prog 122 #[.pointer (some ⟨sb,0,none⟩)] W fun e w'=>e=.returned (.tuple #[.int .i64 (-1),.int .i64 50])∧jW w' sb F s∧az F W w':=by
  have HST:=Yh h
  obtain ⟨v,bm,hb,ho,hm,fs,fm,fv,fb⟩:=h
  obtain ⟨A,c,rfl⟩:=Df ho
  have c1:W.cell? ⟨sb,1,none⟩=some (.int .i64 s.next):=hb.cell 1
  have c2:W.cell? ⟨sb,2,none⟩=some (.int .i64 s.end_):=hb.cell 2
  have c3:W.cell? ⟨sb,3,none⟩=some (.slice A 0 c):=by rw [hb.cell 3,hg];rfl
  have hl:=hb.lt
  have e1:decide (s.next<s.end_)=false:=by simpa using h1
  clear ho hb hm fs fm fv fb hg h1;go_enter Tryz.func122,Tryz.ntmps122
  go_wp2_with fail;have s1:=fun W' (h:Ext W.drew W')=>(h.cell (p:=⟨sb,1,none⟩) hl).trans c1
  have s2:=fun W' (h:Ext W.drew W')=>(h.cell (p:=⟨sb,2,none⟩) hl).trans c2
  refine wp_region_plan [(0, false), (1, false), (2, false), (3, false), (4, false), (5, false), (6, false), (7, false), (8, false), (9, false)] (by kernel_rfl) (by kernel_rfl) (fun _ d _ _ _ h => by cases d <;> exact h) ?_
  iterate 10 (refine plan_take (v:=?_) rfl (by kernel_rfl) ?_ ?_;rotate_left;(focus (intro w' hw';try go_simp;try with_reducible rfl));simp only [Act.put,pa1,pa2,pa3])
  clear s1 s2;refine aG ?_
  go_wp2
  go_ret2
  exact ⟨rfl,HST.out.keeps ((az.refl (fun _=>False) W).drew) (fun _ _ h=>h),(az.refl F W).drew⟩
section
variable {ops:Array Oper} {rest:List Oper} {o:Oper} {a:Act} {Q:Exit→Act→World→Prop}
theorem abm (w:World) (hg:o.guard=none) (m x:Operand) (hop:o.op=Op.call {callee:=Callee.builtin Builtin.delete,args:=#[m,x],argTypes:=#[259,3] }) (b:Nat) (L:List Int) (f:Int)
    (hm:a.eval m=.map (some b)) (hx:a.eval x=.int .i64 f) (h:iL w b L) (hf:(Lit.int .i64 f).wf=true) (hL:f∈L)
    (hK:∀ w',iL w' b (L.erase f)→w.grownBy w' (some b)→wpList Tryz.prog ops Q rest (a.put o.dst (.tuple #[])) w'):wpList Tryz.prog ops Q (o::rest) a w:=by
  refine wpList_plain hg fun K' hK'=>?_
  obtain ⟨w',hrun,r1,r2⟩:=h.del hf hL o.type
  unfold Oper.wp execOp;simp only [hop,resolve,invoke,builtin,Sem.run_bind,Sem.run_pure,Result.andThen_ok,List.map_toArray,List.map_cons,List.map_nil,hm,hx,hrun]
  exact hK' _ _ (hK w' r1 r2)
end
theorem info3:(Tryz.prog.info? 3).map (fun i=>(i.zero,i.size,i.bytes))=some (some (.int .i64 0),1,8):=by kernel_rfl
theorem sO (w:World) (t:TypeId) (u:Value):Reads (w.alloc (.cells #[u] t)) (w.heap.size+1) 1 (some ⟨w.heap.size,0,none⟩) 1 [u]:=
  ⟨rfl,fun _=>⟨_,rfl,Nat.lt_succ_self _,fun j v hj=>by
    match j,hj with
    | 0,hj =>
      simp at hj
      subst hj;show (w.alloc (.cells #[u] t)).cell? ⟨w.heap.size,0,none⟩=_
      rw [World.cell?_alloc_new];rfl
    | j+1,hj=>simp at hj⟩⟩
theorem yo (x:Int):∀ u∈[Value.int IntKind.i64 x],u.oneCell'=true:=by
  intro u hu;simp at hu;subst hu;rfl
def abn (W:World) (sb:Nat) (F:Nat→Prop) (s:SV) (w':World):Prop:=∃ F',jW w' sb F' s∧(∀ k,F' k→F k∨W.heap.size≤k)∧az F W w'
theorem Jy (sb:Nat) (F:Nat→Prop) (s:SV) (f:Int) (W:World) (h:jW W sb F s) (hf:(Lit.int .i64 f).wf=true) (hn:f∈s.taken) (hlen:s.given.length≤1048576):
    Calls Tryz.prog 163 #[.pointer (some ⟨sb,0,none⟩),.int .i64 f] W fun e w'=>e=.returned (.int .i64 0)∧abn W sb F (s.back f) w':=by
  obtain ⟨v,bm,hb,ho,hm,fs,fm,fv,fb⟩:=h
  obtain ⟨i0,hi0,hz0,hz1,hz2⟩:=info_parts info3
  obtain ⟨A,c,rfl⟩:=Df ho
  have c4:W.cell? ⟨sb,4,none⟩=some (.map (some bm)):=hb.cell 4
  have hl:=hm.look hf
  rw [show decide (f∈s.taken)=true by simpa using hn] at hl
  have ma:bm≠sb:=by
    obtain ⟨_,D,hD,_⟩:=hm
    exact Gv hD hb
  have p9:∀ k,(Value.slice A s.given.length c).ownBlock=some k→k≠sb∧k≠bm:=fun k hk=>⟨fun e=>mM ho hb (by decide) (by rw [hk,e]),fun e=>by
    obtain ⟨_,D,hD,_⟩:=hm
    exact Gw ho hD (by rw [hk,e])⟩
  have HB:=Yh hb
  have HR:=Yh ho
  have HM:=Yh hm
  have HN:=Yh (And.intro p9 ma)
  have HF:=Yh (And.intro fs (And.intro fm (And.intro fv fb)))
  have xJ:=Yh hn
  have HW:=Yh hf
  have hsl:=hb.lt
  clear ho hb hm fs fm fv fb hn hf p9 ma;go_enter Tryz.func163,Tryz.ntmps163
  go_wp2_with (first
    | (at_delete;refine abm _ rfl _ _ rfl bm s.taken f rfl rfl HM.out HW.out xJ.out ?_;intro w1 hset hgrow;have hb1:=HB.out.grown hgrow (by intro e;injection e with e;exact HN.out.2 e.symm);have c13:w1.cell? ⟨sb,3,none⟩=some (.slice A s.given.length c):=hb1.cell 3;have K1:=(az.refl (fun k=>k=sb∨k=bm) W).grown hgrow (fun k hk=>by injection hk with hk;exact .inl (.inr hk.symm));have dL:=Yh (K1.row HR.out (fun k hk=>by rintro (e|e);exact (HN.out.1 k hk).1 e;exact (HN.out.1 k hk).2 e));have oO:=Yh hset;have tq:=Yh K1;have HB1:=Yh hb1;have hsz1:W.heap.size≤w1.heap.size:=K1.size;clear hset hgrow hb1 K1 hl c4)
    | (at_builtin;refine oL _ rfl (.tmp 25) (.tmp 27) _ rfl 0 3 i0 _ 1 8 Tryz.underlying73 hi0 hz0 hz1 hz2 rfl (by decide) _ s.given.length (s.given.map iv) rfl (dL.out.alloc _) (w1.heap.size+1) (some ⟨w1.heap.size,0,none⟩) 1 1 [.int .i64 f] rfl (sO _ _ _) (yo _) (by unfold maxLen;omega) (by omega) (Nat.zero_le _) ?_;intro v2 w2 hown hgrow hat;obtain ⟨g2,cap2,abo,_,_⟩:=hown.form (by omega);subst abo;have hb2:=(HB1.out.alloc (.cells #[.int .i64 f] 3)).grown hgrow (fun e=>(HN.out.1 sb e.symm).1 rfl);have c23:w2.cell? ⟨sb,3,none⟩=some (.slice A s.given.length c):=hb2.cell 3;have f23:=hb2.frozen 3;have dY:=Yh hown;have HG2:=Yh hgrow;have HB2:=Yh hb2;have HAT:=Yh hat;clear hown hgrow hb2 hat c13))
  go_ret
  obtain ⟨fs,fm,fv,fb⟩:=HF.out
  obtain ⟨p9,ma⟩:=HN.out
  have hg2:=HG2.out
  have hs2:w1.heap.size+1≤w2.heap.size:=by have:=hg2.size;simpa using this
  have K2:az F W w2:=((tq.out.mono (fun k hk=>by rcases hk with rfl|rfl <;> assumption)).alloc _).grown hg2 (fun k hk=>.inl (fv k hk))
  have K3:az F W (w2.setCell ⟨sb,3,none⟩ (Value.slice (some ⟨g2,0,none⟩) (s.given.length+1) cap2)):=K2.setCell (.inl fs) _
  have hat:=HAT.out
  have hv2:∀ k,(Value.slice (some ⟨g2,0,none⟩) (s.given.length+1) cap2).ownBlock=some k→F k∨W.heap.size≤k:=fun k hk=>by
    rcases hat with e|e
    · rw [e] at hk;exact .inl (fv k hk)
    · rw [e] at hk;simp at hk;omega
  have abp:(Value.slice (some ⟨g2,0,none⟩) (s.given.length+1) cap2).ownBlock≠some sb:=by
    rcases hat with e|e
    · rw [e];exact fun h=>(p9 sb h).1 rfl
    · rw [e];simp;omega
  have abL:(Value.slice (some ⟨g2,0,none⟩) (s.given.length+1) cap2).ownBlock≠some bm:=by
    rcases hat with e|e
    · rw [e];exact fun h=>(p9 bm h).2 rfl
    · rw [e];have:=fb bm fm;simp;omega
  have hown:(w2.setCell ⟨sb,3,none⟩ (Value.slice (some ⟨g2,0,none⟩) (s.given.length+1) cap2)).ownsRow 0 3 1 (Value.slice (some ⟨g2,0,none⟩) (s.given.length+1) cap2) (s.back f).given.length ((s.back f).given.map iv):=by
    have:=ownsRow_setCell_other dY.out (a:=⟨sb,3,none⟩) abp (Value.slice (some ⟨g2,0,none⟩) (s.given.length+1) cap2)
    simpa [SV.back,iv] using this
  have abq:iL (w2.setCell ⟨sb,3,none⟩ (Value.slice (some ⟨g2,0,none⟩) (s.given.length+1) cap2)) bm (s.taken.erase f):=by
    have k1:az (fun k=>some k=(Value.slice A s.given.length c).ownBlock∨k=sb) w1 (w2.setCell ⟨sb,3,none⟩ (Value.slice (some ⟨g2,0,none⟩) (s.given.length+1) cap2)):=
      (((az.refl _ w1).alloc _).grown hg2 (fun k hk=>.inl (.inl hk.symm))).setCell (.inl (.inr rfl)) _
    refine oO.out.keeps k1 ?_
    rintro (e|e)
    · exact (p9 bm e.symm).2 rfl
    · exact ma e
  refine ⟨rfl,fun k=>F k∨(W.heap.size≤k∧k<w2.heap.size),⟨(Value.slice (some ⟨g2,0,none⟩) (s.given.length+1) cap2),bm,HB2.out.ay 3 _,hown,abq,.inl fs,.inl fm,fun k hk=>?_,fun k hk=>?_⟩,fun k hk=>hk.imp id (·.1),K3⟩
  · rcases hv2 k hk with h|h
    · exact .inl h
    · exact .inr ⟨h,(dY.out.lt k hk).2⟩
  · have:=K2.size
    rcases hk with h|h
    · have:=fb k h;simp;omega
    · simpa using h.2
end Go.Proofs.YtnebdlchogmneaaGreatDoor
