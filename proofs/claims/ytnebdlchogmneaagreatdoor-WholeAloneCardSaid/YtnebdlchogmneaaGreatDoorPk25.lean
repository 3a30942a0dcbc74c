/- Texts of the proof: AsF, AsG, AsH, AsI. -/
import Derived.Test.YtnebdlchogmneaaGreatDoorPk1
import Derived.Test.YtnebdlchogmneaaGreatDoorPk24
import Derived.LaidEqlPtr
import Derived.Test.YtnebdlchogmneaaGreatDoorPk17
set_option maxHeartbeats 8000000
set_option linter.unusedVariables false
set_option linter.unusedSimpArgs false
namespace Go.Proofs.YtnebdlchogmneaaGreatDoor
open Go.RowKit Go.Maps
def regs:Code→List (List Oper)
  | .region _ ops _=>[ops.toList]
  | .seq a b=>regs a++regs b
  | .cond _ a b=>regs a++regs b
  | .block _ b=>regs b
  | .loop b=>regs b
  | .scope b=>regs b
  | _=>[]
noncomputable def XX:List Oper:=(match Tryz.f117.body with|some b=>regs b|none=>[]).getD 1 []
theorem Hg:Later (fun _ _=>True):=⟨fun _=>trivial,fun _ _=>trivial⟩
section
variable {o:Oper} {a:Act} {w:World} {K:Act→World→Prop} {Q:Exit→Act→World→Prop}
theorem XY (t:TypeId) (hop:o.op=Op.makeMap t none) (h:K (a.put o.dst (.map (some w.heap.size))) (w.alloc (.map #[] 0))):o.wp Tryz.prog a w K Q:=by
  have hmm:=@run_makeMap Tryz.prog
  unfold Oper.wp;simp [execOp,hop,hmm,Result.andThen]
  exact h
theorem vB (mt:TypeId) {m k v:Operand} {b kv vv:Value} (hop:o.op=Op.insert mt m k v) (hm:a.eval m=b) (hk:a.eval k=kv) (hv:a.eval v=vv)
    (hr:∃ w',(Instr.mapUpdate mt b kv vv).run Tryz.prog w=.ok () w'∧K (a.put o.dst undef) w'):o.wp Tryz.prog a w K Q:=by
  obtain ⟨w',hr,h⟩:=hr
  unfold Oper.wp;simp [execOp,hop,hm,hk,hv,hr,Result.andThen]
  exact h
end
section
variable {o:Oper} {a:Act} {w:World} {K:Act→World→Prop} {Q:Exit→Act→World→Prop}
theorem XZ (t:TypeId) {v:Value} {w':World} (hop:o.op=Op.buildSlice t 0 #[]) (hr:(Instr.buildSlice t 0 #[]).run Tryz.prog w=.ok v w') (h:K (a.put o.dst v) w'):o.wp Tryz.prog a w K Q:=by
  unfold Oper.wp;simp only [execOp,hop,List.map_toArray,List.map_cons,List.map_nil]
  simp [hr,Result.andThen]
  exact h
theorem Hl (t:TypeId) {x y:Operand} {p q v:Value} {w':World} (hop:o.op=Op.buildSlice t 2 #[(0,x),(1,y)]) (hx:a.eval x=p) (hy:a.eval y=q) (hr:(Instr.buildSlice t 2 #[(0,p),(1,q)]).run Tryz.prog w=.ok v w') (h:K (a.put o.dst v) w'):o.wp Tryz.prog a w K Q:=by
  unfold Oper.wp;simp only [execOp,hop,List.map_toArray,List.map_cons,List.map_nil,hx,hy]
  simp [hr,Result.andThen]
  exact h
theorem Dr (t:TypeId) {x y z:Operand} {p q r v:Value} {w':World} (hop:o.op=Op.buildSlice t 3 #[(0,x),(1,y),(2,z)]) (hx:a.eval x=p) (hy:a.eval y=q) (hz:a.eval z=r) (hr:(Instr.buildSlice t 3 #[(0,p),(1,q),(2,r)]).run Tryz.prog w=.ok v w') (h:K (a.put o.dst v) w'):o.wp Tryz.prog a w K Q:=by
  unfold Oper.wp;simp only [execOp,hop,List.map_toArray,List.map_cons,List.map_nil,hx,hy,hz]
  simp [hr,Result.andThen]
  exact h
end
theorem X0 (w:World):(Instr.buildSlice 318 0 #[]).run Tryz.prog w=.ok (.slice (some ⟨w.heap.size,0,none⟩) 0 0) (w.alloc (.cells #[] 319)):=by kernel_rfl
theorem Hm (p q:Addr) (w:World):(Instr.buildSlice 318 2 #[(0,.pointer (some p)),(1,.pointer (some q))]).run Tryz.prog w=.ok (.slice (some ⟨w.heap.size,0,none⟩) 2 2) (w.alloc (.cells #[.pointer (some p),.pointer (some q)] 319)):=by kernel_rfl
theorem pJ (p q r:Addr) (w:World):(Instr.buildSlice 318 3 #[(0,.pointer (some p)),(1,.pointer (some q)),(2,.pointer (some r))]).run Tryz.prog w=.ok (.slice (some ⟨w.heap.size,0,none⟩) 3 3) (w.alloc (.cells #[.pointer (some p),.pointer (some q),.pointer (some r)] 319)):=by kernel_rfl
theorem tO:Tryz.prog.underlying 320 = some (.map 9 318):=by kernel_rfl
def Dt (x:Nat→Value) (t:Tmp):List (Nat × Option Tmp)→Value→Value
  | [],v=>v
  | p::r,v=>Dt x t r (if p.2==some t then x p.1 else v)
theorem Ho (x:Nat→Value) (t:Tmp):∀ (r:List (Nat × Option Tmp)) (a:Act),t<a.tmps.size→(fill a x r).eval (.tmp t)=Dt x t r (a.eval (.tmp t))
  | [],_,_=>rfl
  | (i,none)::r,a,h=>Ho x t r a h
  | (i,some d)::r,a,h=>by
    show (fill (a.put (some d) (x i)) x r).eval (.tmp t)=Dt x t r (if (some d==some t)=true then x i else a.eval (.tmp t))
    rw [Ho x t r _ (by show t<(a.tmps.setIfInBounds d (x i)).size;rw [Array.size_setIfInBounds];exact h)]
    congr 1
    show (a.tmps.setIfInBounds d (x i)).getD t undef=_
    by_cases e:d=t
    · subst e
      rw [if_pos (by simp)]
      simp [Array.getD,h]
    · rw [if_neg (by simp [e])]
      show _=a.tmps.getD t undef
      simp [Array.getD_eq_getD_getElem?,Array.getElem?_setIfInBounds,e]
section
variable {P:Program} {ls:List Oper} {Q:Exit→Act→World→Prop} {R:World→World→Prop}
theorem kU {ds:List (Nat × Option Tmp)} {Iv:(Nat→Bool)→(Nat→Value)→World→Prop} {a0:Act} {i:Nat} {d:Option Tmp} {o:Oper} (ho:opAt ls i=some o) (hwt:∀ y,Region.wanted o y=true)
    (h:∀ dn x w,Iv dn x w→dn i=false→(∀ j,(o.after.any (fun e=>Region.binds .any e&&e.on==j)&&ds.any (fun q=>q.1==j))=true→dn j=true) →
      ∀ F:Act,(∀ t,Nat.blt t a0.tmps.size=true→F.eval (.tmp t)=Dt x t ds (a0.eval (.tmp t)))→∀ K:Act→World→Prop,(∀ v w',R w w'→Iv (dZ dn i) (upd x i v) w'→K (F.put o.dst v) w')→o.wp P F w K Q)
    (hd:o.dst=d):CG R P ls Q ds Iv a0 (i,d):=
  TM ho (fun dn x w h1 h2 h3=>⟨hwt _,fun K hK=>h dn x w h1 h2 h3 (fill a0 x ds) (fun t ht=>Ho x t ds a0 (by simpa using ht)) K hK⟩) hd
end
section
variable {o:Oper} {a:Act} {w:World} {K:Act→World→Prop} {Q:Exit→Act→World→Prop}
theorem X3 (t:TypeId) {m k:Operand} {b kv v:Value} (hop:o.op=Op.lookup t m k false) (hm:a.eval m=b) (hk:a.eval k=kv) (hr:(Instr.lookup t b kv false).run Tryz.prog w=.ok v w) (h:K (a.put o.dst v) w):o.wp Tryz.prog a w K Q:=by
  unfold Oper.wp;simp [execOp,hop,hm,hk,hr,Result.andThen]
  exact h
end
theorem X4 (w:World):(zeroValue 318).run Tryz.prog w=.ok (.slice none 0 0) w:=by kernel_rfl
def kE (c0:Array Value) (fs:List Nat) (vs:Nat→Int):Nat→Array Value
  | 0=>c0
  | k+1=>(kE c0 fs vs k).setIfInBounds (fs.getD k 0) (.int .i64 (vs k))
theorem NG:∃ j,Tryz.prog.info? 3 = some j∧j.size≠0:=by
  have h:(Tryz.prog.info? 3).isSome=true:=by kernel_rfl
  exact ⟨(Tryz.prog.info? 3).get h,(Option.some_get h).symm,of_decide_eq_true (by kernel_rfl)⟩
theorem Hq {w:World} {b i j:Nat} {t:TypeId} {cs:Array Value} (h:Blk w b t cs) (hne:i≠j):(binOp .eql 319 (.pointer (some ⟨b,i,none⟩)) (.pointer (some ⟨b,j,none⟩))).run Tryz.prog w=.ok (.bool false) w:=by
  obtain ⟨k,hk,hs⟩:=NG
  exact run_eql_ptr_other w Tryz.underlying319 hk hs (by intro e;cases e;exact hne rfl) h h
theorem X5 {w:World} {b i:Nat}:(binOp .eql 319 (.pointer (some ⟨b,i,none⟩)) (.pointer (some ⟨b,i,none⟩))).run Tryz.prog w=.ok (.bool true) w:=by
  obtain ⟨k,hk,hs⟩:=NG
  exact run_eql_ptr_same w _ Tryz.underlying319 hk
theorem Bn (c0:Array Value) (fs:List Nat) (vs:Nat→Int):∀ k,(kE c0 fs vs k).size=c0.size
  | 0=>rfl
  | k+1=>by
    show ((kE c0 fs vs k).setIfInBounds _ _).size=_
    rw [Array.size_setIfInBounds,Bn c0 fs vs k]
theorem X6 (ib q k:Nat) (hk:k<(bz q).length):(pO ib q)[k]? = some (.pointer (some ⟨ib,(bz q).getD k 0,none⟩)):=by
  unfold pO;rw [List.getElem?_toArray,List.getElem?_map,List.getElem?_eq_getElem hk];simp [List.getD,hk]
theorem X7:∀ q,q<8→∀ k,k<(bz q).length→(bz q).getD k 0=1∨(bz q).getD k 0=2∨(bz q).getD k 0=3∨(bz q).getD k 0=4:=by decide
set_option maxRecDepth 100000 in
theorem NH (q:Nat) (hq:q<8) (o:Int) (l:Nat→ByteArray) (vs:Nat→Int) (oks:Nat→Bool) (ib lb:Nat) (p:Option Addr) (W w:World) (os:List Oj) (hg:Gl W)
    (HR:Hid (∀ k,k<(bz q).length→∀ w,Gl w→Calls Tryz.prog (if (bz q).getD k 0=4 then 160 else 158) #[.string (l k)] w fun e w'=>e=.returned (.tuple #[.int .i64 (vs k),.bool (oks k)])∧Below w.heap.size w w'))
    (HC:Hid (∀ k,k<(bz q).length→∀ cs w',aa W (ae ib 39 cs::os) w'→w'.cell? ⟨lb,k,none⟩=some (.string (l k))∧lb<w'.heap.size∧p=some ⟨lb,0,none⟩))
    (hO:aa W (ae ib 39 (aZ o 0 0 0 0)::os) w):
    Calls Tryz.prog 117 #[.pointer (some ⟨ib,0,none⟩),.string ⟨(eU q).toArray⟩,.slice p (bz q).length (bz q).length] w fun e w'=>∃ (b:Bool) (cs:Array Value),e=.returned (.bool b)∧(b=true↔∀ k,k<(bz q).length→oks k=true)∧(b=true→cs=kE (aZ o 0 0 0 0) (bz q) vs (bz q).length)∧aa W (ae ib 39 cs::os) w':=by
  have H0:=Yh hO
  have HG:=Yh hg
  have hm3:(bz q).length≤3:=by
    have:∀ q,q<8→(bz q).length≤3:=by decide
    exact this q hq
  clear hg hO;go_enter Tryz.func117,Tryz.ntmps117
  go_wp2_with fail
  change Code.wp _ (Code.region 1 XX.toArray true) _ _ _
  refine wp_region_pt (fun _ _=>True) Hg (PT.steps [3,4,5,6,7,8,11,12,13,14,15,16,19,20,21,22,23,24,25,26,27,30,31,32,33,34,35,36,37,38,41,42,43,44,45,46,47,48,49,52,53,54,55,56,57,60,61,62,63,64,65,66,67,68,72] (.rest 20 (kL 75 [3,4,5,6,7,8,11,12,13,14,15,16,19,20,21,22,23,24,25,26,27,30,31,32,33,34,35,36,37,38,41,42,43,44,45,46,47,48,49,52,53,54,55,56,57,60,61,62,63,64,65,66,67,68,72]))) (by kernel_rfl) (by kernel_rfl) (fun _ d _ _ _ h=>by cases d <;> exact h) ?_
  unfold PT.steps
  iterate 55 (refine pt_take (v:=?_) rfl (by kernel_rfl) ?_ ?_;rotate_left;(focus (intro w' hw';try go_simp;try with_reducible rfl));simp only [Act.put,pa1,pa2,pa3])
  refine TL (R:=fun _ _=>True) (R':=fun _ _=>True) (fun _ _ h=>h) Hg Hg (ds:=[(0,some 13),(1,some 14),(2,none),(9,some 21),(10,none),(17,some 28),(18,none),(28,some 38),(29,none),(39,some 48),(40,none),(50,some 58),(51,none),(58,some 65),(59,none),(69,some 75),(70,none)]) (tN W (ae ib 39 (aZ o 0 0 0 0)::os) ib) (.turn 71 (.turn 73 (.turn 74 .done))) (by kernel_rfl) (fun _ d _ _ _ h=>by cases d <;> exact h) rfl (by kernel_rfl) (by kernel_rfl) (XV H0.out.drew (by kernel_rfl) (of_decide_eq_true (by kernel_rfl)) (of_decide_eq_true (by kernel_rfl))) ?_ ?_
  · refine ⟨kU rfl (fun _=>rfl) (fun dn x w' hI hn cz F hF K hK=>?_) rfl,?_⟩
    focus
      refine XY 320 rfl ?_
      exact hK _ _ trivial (XT hI hn)
    refine ⟨kU rfl (fun _=>rfl) (fun dn x w' hI hn cz F hF K hK=>?_) rfl,?_⟩
    focus
      exact XZ 318 rfl  (X0  w') (hK _ _ trivial (vw hI 0 (by decide) hn))
    refine ⟨kU rfl (fun _=>rfl) (fun dn x w' hI hn cz F hF K hK=>?_) rfl,?_⟩
    focus
      have a1:=cz 0 (by kernel_rfl)
      have a2:=cz 1 (by kernel_rfl)
      have a3:=vz hI 0 (by decide) hn a1 a2 320 318 tO undef
      clear cz;exact vB 320 (b:=x 0) (vv:=x (bU 0)) rfl (hF 13 (by kernel_rfl)) rfl (hF 14 (by kernel_rfl)) (a3.imp fun w2 h=>⟨h.1,hK _ _ trivial h.2⟩)
    refine ⟨kU rfl (fun _=>rfl) (fun dn x w' hI hn cz F hF K hK=>?_) rfl,?_⟩
    focus
      exact Hl 318 rfl (hF 17 (by kernel_rfl)) (hF 20 (by kernel_rfl)) (Hm ⟨ib,1,none⟩ ⟨ib,4,none⟩ w') (hK _ _ trivial (vw hI 1 (by decide) hn))
    refine ⟨kU rfl (fun _=>rfl) (fun dn x w' hI hn cz F hF K hK=>?_) rfl,?_⟩
    focus
      have a1:=cz 0 (by kernel_rfl)
      have a2:=cz 9 (by kernel_rfl)
      have a3:=vz hI 1 (by decide) hn a1 a2 320 318 tO undef
      clear cz;exact vB 320 (b:=x 0) (vv:=x (bU 1)) rfl (hF 13 (by kernel_rfl)) rfl (hF 21 (by kernel_rfl)) (a3.imp fun w2 h=>⟨h.1,hK _ _ trivial h.2⟩)
    refine ⟨kU rfl (fun _=>rfl) (fun dn x w' hI hn cz F hF K hK=>?_) rfl,?_⟩
    focus
      exact Hl 318 rfl (hF 24 (by kernel_rfl)) (hF 27 (by kernel_rfl)) (Hm ⟨ib,1,none⟩ ⟨ib,4,none⟩ w') (hK _ _ trivial (vw hI 2 (by decide) hn))
    refine ⟨kU rfl (fun _=>rfl) (fun dn x w' hI hn cz F hF K hK=>?_) rfl,?_⟩
    focus
      have a1:=cz 0 (by kernel_rfl)
      have a2:=cz 17 (by kernel_rfl)
      have a3:=vz hI 2 (by decide) hn a1 a2 320 318 tO undef
      clear cz;exact vB 320 (b:=x 0) (vv:=x (bU 2)) rfl (hF 13 (by kernel_rfl)) rfl (hF 28 (by kernel_rfl)) (a3.imp fun w2 h=>⟨h.1,hK _ _ trivial h.2⟩)
    refine ⟨kU rfl (fun _=>rfl) (fun dn x w' hI hn cz F hF K hK=>?_) rfl,?_⟩
    focus
      exact Dr 318 rfl (hF 31 (by kernel_rfl)) (hF 34 (by kernel_rfl)) (hF 37 (by kernel_rfl)) (pJ ⟨ib,1,none⟩ ⟨ib,2,none⟩ ⟨ib,4,none⟩ w') (hK _ _ trivial (vw hI 3 (by decide) hn))
    refine ⟨kU rfl (fun _=>rfl) (fun dn x w' hI hn cz F hF K hK=>?_) rfl,?_⟩
    focus
      have a1:=cz 0 (by kernel_rfl)
      have a2:=cz 28 (by kernel_rfl)
      have a3:=vz hI 3 (by decide) hn a1 a2 320 318 tO undef
      clear cz;exact vB 320 (b:=x 0) (vv:=x (bU 3)) rfl (hF 13 (by kernel_rfl)) rfl (hF 38 (by kernel_rfl)) (a3.imp fun w2 h=>⟨h.1,hK _ _ trivial h.2⟩)
    refine ⟨kU rfl (fun _=>rfl) (fun dn x w' hI hn cz F hF K hK=>?_) rfl,?_⟩
    focus
      exact Dr 318 rfl (hF 41 (by kernel_rfl)) (hF 44 (by kernel_rfl)) (hF 47 (by kernel_rfl)) (pJ ⟨ib,1,none⟩ ⟨ib,2,none⟩ ⟨ib,3,none⟩ w') (hK _ _ trivial (vw hI 4 (by decide) hn))
    refine ⟨kU rfl (fun _=>rfl) (fun dn x w' hI hn cz F hF K hK=>?_) rfl,?_⟩
    focus
      have a1:=cz 0 (by kernel_rfl)
      have a2:=cz 39 (by kernel_rfl)
      have a3:=vz hI 4 (by decide) hn a1 a2 320 318 tO undef
      clear cz;exact vB 320 (b:=x 0) (vv:=x (bU 4)) rfl (hF 13 (by kernel_rfl)) rfl (hF 48 (by kernel_rfl)) (a3.imp fun w2 h=>⟨h.1,hK _ _ trivial h.2⟩)
    refine ⟨kU rfl (fun _=>rfl) (fun dn x w' hI hn cz F hF K hK=>?_) rfl,?_⟩
    focus
      exact Dr 318 rfl (hF 51 (by kernel_rfl)) (hF 54 (by kernel_rfl)) (hF 57 (by kernel_rfl)) (pJ ⟨ib,1,none⟩ ⟨ib,2,none⟩ ⟨ib,3,none⟩ w') (hK _ _ trivial (vw hI 5 (by decide) hn))
    refine ⟨kU rfl (fun _=>rfl) (fun dn x w' hI hn cz F hF K hK=>?_) rfl,?_⟩
    focus
      have a1:=cz 0 (by kernel_rfl)
      have a2:=cz 50 (by kernel_rfl)
      have a3:=vz hI 5 (by decide) hn a1 a2 320 318 tO undef
      clear cz;exact vB 320 (b:=x 0) (vv:=x (bU 5)) rfl (hF 13 (by kernel_rfl)) rfl (hF 58 (by kernel_rfl)) (a3.imp fun w2 h=>⟨h.1,hK _ _ trivial h.2⟩)
    refine ⟨kU rfl (fun _=>rfl) (fun dn x w' hI hn cz F hF K hK=>?_) rfl,?_⟩
    focus
      exact Hl 318 rfl (hF 61 (by kernel_rfl)) (hF 64 (by kernel_rfl)) (Hm ⟨ib,1,none⟩ ⟨ib,2,none⟩ w') (hK _ _ trivial (vw hI 6 (by decide) hn))
    refine ⟨kU rfl (fun _=>rfl) (fun dn x w' hI hn cz F hF K hK=>?_) rfl,?_⟩
    focus
      have a1:=cz 0 (by kernel_rfl)
      have a2:=cz 58 (by kernel_rfl)
      have a3:=vz hI 6 (by decide) hn a1 a2 320 318 tO undef
      clear cz;exact vB 320 (b:=x 0) (vv:=x (bU 6)) rfl (hF 13 (by kernel_rfl)) rfl (hF 65 (by kernel_rfl)) (a3.imp fun w2 h=>⟨h.1,hK _ _ trivial h.2⟩)
    refine ⟨kU rfl (fun _=>rfl) (fun dn x w' hI hn cz F hF K hK=>?_) rfl,?_⟩
    focus
      exact Dr 318 rfl (hF 68 (by kernel_rfl)) (hF 71 (by kernel_rfl)) (hF 74 (by kernel_rfl)) (pJ ⟨ib,2,none⟩ ⟨ib,3,none⟩ ⟨ib,4,none⟩ w') (hK _ _ trivial (vw hI 7 (by decide) hn))
    refine ⟨kU rfl (fun _=>rfl) (fun dn x w' hI hn cz F hF K hK=>?_) rfl,?_⟩
    focus
      have a1:=cz 0 (by kernel_rfl)
      have a2:=cz 69 (by kernel_rfl)
      have a3:=vz hI 7 (by decide) hn a1 a2 320 318 tO undef
      clear cz;exact vB 320 (b:=x 0) (vv:=x (bU 7)) rfl (hF 13 (by kernel_rfl)) rfl (hF 75 (by kernel_rfl)) (a3.imp fun w2 h=>⟨h.1,hK _ _ trivial h.2⟩)
    trivial
  · intro x w1 hI
    obtain ⟨g,hl,hO⟩:=XW hI (by kernel_rfl) (of_decide_eq_true (by kernel_rfl)) (of_decide_eq_true (by kernel_rfl)) q hq 320 318 tO (X4 w1)
    have H1:=Yh hO
    have HL:=Yh hl
    clear hI hl hO H0;simp only [fill,Act.put,List.setIfInBounds_toArray,List.set_cons_zero,List.set_cons_succ]
    refine fB ?_
    refine dw (R:=fun _ _=>True) rfl (by kernel_rfl) (fun K hK=>?_)
    go_simp
    refine hK _ _ ⟨trivial,?_⟩
    clear hK K
    (try simp only [Act.put,pa1,pa2,pa3])
    refine fB ?_
    refine dw (R:=fun _ _=>True) rfl (by kernel_rfl) (fun K hK=>?_)
    refine X3 320 rfl rfl rfl HL.out ?_
    refine hK _ _ ⟨trivial,?_⟩
    clear hK K
    (try simp only [Act.put,pa1,pa2,pa3])
    refine fB ?_
    refine dw (R:=fun _ _=>True) rfl (by kernel_rfl) (fun K hK=>?_)
    go_simp
    refine hK _ _ ⟨trivial,?_⟩
    clear hK K
    (try simp only [Act.put,pa1,pa2,pa3])
    refine uM ?_
    clear HL;generalize x 0=x0;generalize x 1=x1;generalize x 9=x2;generalize x 17=x3;generalize x 28=x4;generalize x 39=x5;generalize x 50=x6;generalize x 58=x7;generalize x 69=x8;clear x;unfold xk
    go_wp2_with fail
    go_loopw [86,87,88,89,90,91,92,93,94,95,96,97,98,99,100,101,102,103,104,105,106,107,108,109,110,8,9,10,11,12] (fun i _ _ _ _ _ _ _ _ _ _ _ _ _ _ _ _ _ _ _ _ _ _ _ _ _ _ _ _ _ wr=>∃ k:Nat,k≤(bz q).length∧i=.int .i64 (k:Int)∧(∀ j,j<k→oks j=true)∧aa W (ae g 319 (pO ib q)::ae ib 39 (kE (aZ o 0 0 0 0) (bz q) vs k)::os) wr) (fun i _ _ _ _ _ _ _ _ _ _ _ _ _ _ _ _ _ _ _ _ _ _ _ _ _ _ _ _ _ _=>(bz q).length-(intOf i).toNat)
    case atStart=>exact ⟨0,Nat.zero_le _,rfl,fun j hj=>by omega,H1.out⟩
    case round =>
      obtain ⟨k,hk,rfl,hok,Bo⟩:=hrel
      have aX:=Yh hok
      have vC:=Yh Bo
      have Du:=Yh (kD HG.out Bo)
      by_cases hkl:k<(bz q).length
      · have mU:=Yh hkl
        have hki:(k:Int)<((bz q).length:Int):=by omega
        have hk0:(0:Int)≤(k:Int):=by omega
        obtain ⟨hs1,hs2,hs3⟩:=HC.out k hkl _ _ (Bo.drop 1)
        subst hs3;have hs4:wr.cell? ⟨lb,((k:Int)).toNat,none⟩=some (.string (l k)):=hs1
        have bc:=Bo.blk 0 rfl
        have hc:wr.cell? ⟨g,((k:Int)).toNat,none⟩=some (.pointer (some ⟨ib,(bz q).getD k 0,none⟩)):=(bc.cell k).trans (X6 ib q k hkl)
        have kR:=bc.lt
        have X8:=X7 q hq k hkl
        clear bc Bo hok hs1 hk;generalize eB:(k:Int)=ki at *;have bZ:=Yh eB
        clear eB;rcases X8 with hf|hf|hf|hf
        · have HF:=Yh hf
          have jV:=Yh (HR.out k hkl)
          rw [hf] at jV;simp only [Nat.reduceEqDiff,if_true,if_false] at jV
          rw [hf] at hc;have hof:1<(kE (aZ o 0 0 0 0) (bz q) vs k).size:=by rw [Bn];show _<5;omega
          have hpe:=Hq (vC.out.blk 1 rfl) (show 1≠4 by decide)
          clear hkl
          go_wp2_with fail;refine (jV.out _ Du.out).mono ?_
          rintro e w3 ⟨rfl,hb3⟩;have H3:=Yh (vC.out.step hb3)
          have bi:=H3.out.blk 1 rfl
          have hil:=bi.lt
          have hfr:=fun i=>Blk.frozen bi i
          obtain ⟨old,hold⟩:∃ v,(kE (aZ o 0 0 0 0) (bz q) vs k)[1]? = some v:=⟨_,Array.getElem?_eq_getElem hof⟩
          have ci:=(bi.cell 1).trans hold
          clear bi hold hof hb3 jV
          cases hok2:oks k with
          | true =>
            have dY:=Yh hok2
            clear hok2
            go_wp2_with fail
            go_roundw
            case rel =>
              have tQ:=bZ.out
              refine ⟨k+1,mU.out,by rw [← tQ];rfl,fun j hj=>?_,?_⟩
              · rcases Nat.lt_succ_iff_lt_or_eq.1 hj with hj|rfl
                · exact aX.out j hj
                · exact dY.out
              · show aa W (ae g _ (pO ib q)::ae ib _ ((kE (aZ o 0 0 0 0) (bz q) vs k).setIfInBounds ((bz q).getD k 0) (.int .i64 (vs k)))::os) _
                rw [HF.out];exact H3.out.ay 1 rfl 1 (.int .i64 (vs k))
            case measure =>
              show (bz q).length-(ki+1).toNat<(bz q).length-ki.toNat
              have h1:=mU.out
              have h2:=bZ.out
              omega
          | false =>
            have dY:=Yh hok2
            clear hok2
            go_wp2_with fail;go_ret
            exact ⟨false,_,rfl,⟨fun h=>(by cases h),fun h=>(by rw [h k mU.out] at dY;cases dY.out)⟩,fun h=>(by cases h),H3.out.drop 1⟩
        · have HF:=Yh hf
          have jV:=Yh (HR.out k hkl)
          rw [hf] at jV;simp only [Nat.reduceEqDiff,if_true,if_false] at jV
          rw [hf] at hc;have hof:2<(kE (aZ o 0 0 0 0) (bz q) vs k).size:=by rw [Bn];show _<5;omega
          have hpe:=Hq (vC.out.blk 1 rfl) (show 2≠4 by decide)
          clear hkl
          go_wp2_with fail;refine (jV.out _ Du.out).mono ?_
          rintro e w3 ⟨rfl,hb3⟩;have H3:=Yh (vC.out.step hb3)
          have bi:=H3.out.blk 1 rfl
          have hil:=bi.lt
          have hfr:=fun i=>Blk.frozen bi i
          obtain ⟨old,hold⟩:∃ v,(kE (aZ o 0 0 0 0) (bz q) vs k)[2]? = some v:=⟨_,Array.getElem?_eq_getElem hof⟩
          have ci:=(bi.cell 2).trans hold
          clear bi hold hof hb3 jV
          cases hok2:oks k with
          | true =>
            have dY:=Yh hok2
            clear hok2
            go_wp2_with fail
            go_roundw
            case rel =>
              have tQ:=bZ.out
              refine ⟨k+1,mU.out,by rw [← tQ];rfl,fun j hj=>?_,?_⟩
              · rcases Nat.lt_succ_iff_lt_or_eq.1 hj with hj|rfl
                · exact aX.out j hj
                · exact dY.out
              · show aa W (ae g _ (pO ib q)::ae ib _ ((kE (aZ o 0 0 0 0) (bz q) vs k).setIfInBounds ((bz q).getD k 0) (.int .i64 (vs k)))::os) _
                rw [HF.out];exact H3.out.ay 1 rfl 2 (.int .i64 (vs k))
            case measure =>
              show (bz q).length-(ki+1).toNat<(bz q).length-ki.toNat
              have h1:=mU.out
              have h2:=bZ.out
              omega
          | false =>
            have dY:=Yh hok2
            clear hok2
            go_wp2_with fail;go_ret
            exact ⟨false,_,rfl,⟨fun h=>(by cases h),fun h=>(by rw [h k mU.out] at dY;cases dY.out)⟩,fun h=>(by cases h),H3.out.drop 1⟩
        · have HF:=Yh hf
          have jV:=Yh (HR.out k hkl)
          rw [hf] at jV;simp only [Nat.reduceEqDiff,if_true,if_false] at jV
          rw [hf] at hc;have hof:3<(kE (aZ o 0 0 0 0) (bz q) vs k).size:=by rw [Bn];show _<5;omega
          have hpe:=Hq (vC.out.blk 1 rfl) (show 3≠4 by decide)
          clear hkl
          go_wp2_with fail;refine (jV.out _ Du.out).mono ?_
          rintro e w3 ⟨rfl,hb3⟩;have H3:=Yh (vC.out.step hb3)
          have bi:=H3.out.blk 1 rfl
          have hil:=bi.lt
          have hfr:=fun i=>Blk.frozen bi i
          obtain ⟨old,hold⟩:∃ v,(kE (aZ o 0 0 0 0) (bz q) vs k)[3]? = some v:=⟨_,Array.getElem?_eq_getElem hof⟩
          have ci:=(bi.cell 3).trans hold
          clear bi hold hof hb3 jV
          cases hok2:oks k with
          | true =>
            have dY:=Yh hok2
            clear hok2
            go_wp2_with fail
            go_roundw
            case rel =>
              have tQ:=bZ.out
              refine ⟨k+1,mU.out,by rw [← tQ];rfl,fun j hj=>?_,?_⟩
              · rcases Nat.lt_succ_iff_lt_or_eq.1 hj with hj|rfl
                · exact aX.out j hj
                · exact dY.out
              · show aa W (ae g _ (pO ib q)::ae ib _ ((kE (aZ o 0 0 0 0) (bz q) vs k).setIfInBounds ((bz q).getD k 0) (.int .i64 (vs k)))::os) _
                rw [HF.out];exact H3.out.ay 1 rfl 3 (.int .i64 (vs k))
            case measure =>
              show (bz q).length-(ki+1).toNat<(bz q).length-ki.toNat
              have h1:=mU.out
              have h2:=bZ.out
              omega
          | false =>
            have dY:=Yh hok2
            clear hok2
            go_wp2_with fail;go_ret
            exact ⟨false,_,rfl,⟨fun h=>(by cases h),fun h=>(by rw [h k mU.out] at dY;cases dY.out)⟩,fun h=>(by cases h),H3.out.drop 1⟩
        · have HF:=Yh hf
          have jV:=Yh (HR.out k hkl)
          rw [hf] at jV;simp only [Nat.reduceEqDiff,if_true,if_false] at jV
          rw [hf] at hc;have hof:4<(kE (aZ o 0 0 0 0) (bz q) vs k).size:=by rw [Bn];show _<5;omega
          have hpe:=X5 (w:=wr) (b:=ib) (i:=4)
          clear hkl
          go_wp2_with fail;refine (jV.out _ Du.out).mono ?_
          rintro e w3 ⟨rfl,hb3⟩;have H3:=Yh (vC.out.step hb3)
          have bi:=H3.out.blk 1 rfl
          have hil:=bi.lt
          have hfr:=fun i=>Blk.frozen bi i
          obtain ⟨old,hold⟩:∃ v,(kE (aZ o 0 0 0 0) (bz q) vs k)[4]? = some v:=⟨_,Array.getElem?_eq_getElem hof⟩
          have ci:=(bi.cell 4).trans hold
          clear bi hold hof hb3 jV
          cases hok2:oks k with
          | true =>
            have dY:=Yh hok2
            clear hok2
            go_wp2_with fail
            go_roundw
            case rel =>
              have tQ:=bZ.out
              refine ⟨k+1,mU.out,by rw [← tQ];rfl,fun j hj=>?_,?_⟩
              · rcases Nat.lt_succ_iff_lt_or_eq.1 hj with hj|rfl
                · exact aX.out j hj
                · exact dY.out
              · show aa W (ae g _ (pO ib q)::ae ib _ ((kE (aZ o 0 0 0 0) (bz q) vs k).setIfInBounds ((bz q).getD k 0) (.int .i64 (vs k)))::os) _
                rw [HF.out];exact H3.out.ay 1 rfl 4 (.int .i64 (vs k))
            case measure =>
              show (bz q).length-(ki+1).toNat<(bz q).length-ki.toNat
              have h1:=mU.out
              have h2:=bZ.out
              omega
          | false =>
            have dY:=Yh hok2
            clear hok2
            go_wp2_with fail;go_ret
            exact ⟨false,_,rfl,⟨fun h=>(by cases h),fun h=>(by rw [h k mU.out] at dY;cases dY.out)⟩,fun h=>(by cases h),H3.out.drop 1⟩
      · obtain rfl:k=(bz q).length:=by omega
        clear hkl
        go_wp2_with fail;go_ret
        exact ⟨true,_,rfl,⟨fun _=>aX.out,fun _=>rfl⟩,fun _=>rfl,vC.out.drop 1⟩
def zI:Array Value:=#[.int .i64 0,.int .i64 0,.int .i64 0,.int .i64 0,.int .i64 0]
theorem rU (o rd rs rt im:Int):dO Tryz.prog 39 (aZ o rd rs rt im).size=true:=by
  show dO Tryz.prog 39 5=true
  kernel_rfl
section
variable {W w:World} {os:List Oj}
theorem aa.Bp (h:aa W os w) (i:Nat) {b:Nat} {t:TypeId} {o rd rs rt im o' rd' rs' vD im':Int} (hi:os[i]? = some (ae b t (aZ o rd rs rt im))):
    aa W (os.set i (ae b t (aZ o' rd' rs' vD im'))) (((((w.setCell ⟨b,0,none⟩ (.int .i64 o')).setCell ⟨b,1,none⟩ (.int .i64 rd')).setCell ⟨b,2,none⟩ (.int .i64 rs')).setCell ⟨b,3,none⟩ (.int .i64 vD)).setCell ⟨b,4,none⟩ (.int .i64 im')):=by
  have hl:i<os.length:=(List.getElem?_eq_some_iff.1 hi).1
  have e:∀ (l:List Oj) (A:Oj),i<l.length→(l.set i A)[i]? = some A:=fun l A h=>by rw [List.getElem?_set_self h]
  have h1:=h.ay i hi 0 (.int .i64 o')
  have h2:=h1.ay i (e _ _ hl) 1 (.int .i64 rd')
  have h3:=h2.ay i (e _ _ (by simpa using hl)) 2 (.int .i64 rs')
  have h4:=h3.ay i (e _ _ (by simpa using hl)) 3 (.int .i64 vD)
  have h5:=h4.ay i (e _ _ (by simpa using hl)) 4 (.int .i64 im')
  simp only [List.set_set] at h5
  exact h5
end
set_option maxRecDepth 100000 in
theorem Bq (r:Bool) (s:ByteArray) (a b:List UInt8) (q o:Nat) (ls:List ByteArray) (vs:Nat→Int) (oks:Nat→Bool) (rd rs rt im:Int) (hs:s.size≤1000) (hcut:Lib.cut s.data.toList [32]=(a,b,true)) (hb:b.length≤1000)
    (ho:Bj ⟨a.toArray⟩=some o) (hq:q<8) (hk:ks (kd o)=⟨(eU q).toArray⟩) (hn:Lib.countB ⟨b.toArray⟩ ⟨#[44,32]⟩+1=(bz q).length) (hsp:Lib.splitB ⟨#[44,32]⟩ 0 (Lib.countB ⟨b.toArray⟩ ⟨#[44,32]⟩) ⟨b.toArray⟩=ls) (hls:ls.length=(bz q).length)
    (HR:Hid (∀ k,k<(bz q).length→∀ w,Gl w→Calls Tryz.prog (if (bz q).getD k 0=4 then 160 else 158) #[.string (ls.getD k ⟨#[]⟩)] w fun e w'=>e=.returned (.tuple #[.int .i64 (vs k),.bool (oks k)])∧Below w.heap.size w w'))
    (hr:if r then (∀ k,k<(bz q).length→oks k=true)∧kE (aZ o 0 0 0 0) (bz q) vs (bz q).length=aZ o rd rs rt im∧jA o rd rs rt im=true else ¬ ∀ k,k<(bz q).length→oks k=true)
    (w:World) (hg:Gl w):
    Calls Tryz.prog 64 #[.string s] w fun e w'=>e=.returned (.tuple #[.agg (if r then aZ o rd rs rt im else zI),.bool r])∧Below w.heap.size w w':=by
  have H0:Hid (aa w [ae w.heap.size 39 zI] (w.alloc (.cells #[Value.int .i64 0,.int .i64 0,.int .i64 0,.int .i64 0,.int .i64 0] 39))):=Yh ((aa.nil (Below.refl _ _)).push _ _ rfl)
  have HG:=Yh hg
  have HC:=Yh (fun w hg=>xg s ⟨#[32]⟩ a b true hcut (by omega) w hg)
  have oC:=Yh (fun w hg=>G8 ⟨a.toArray⟩ w hg)
  rw [ho] at oC;have HK:=Yh (fun W=>mD (o:Int) W)
  rw [hk] at HK;have gG:=Yh hr
  have HS:Hid (∀ w,Gl w→Calls Tryz.prog 33 #[.string ⟨b.toArray⟩,.string ⟨#[44,32]⟩] w fun e w'=>e=.returned (.slice (some ⟨w.heap.size,0,none⟩) (bz q).length (bz q).length)∧w'=w.alloc (.cells (ls.map Value.string).toArray 9)):=Yh fun w hg=>by
    obtain ⟨m,hm⟩:=hg.max
    have:=Tryz.strings_Split ⟨b.toArray⟩ ⟨#[44,32]⟩ m w (by show b.toArray.size<_;rw [List.size_toArray];omega) hm (by decide)
    rw [hsp,hn] at this;exact this
  have X9:=Yh hls
  clear hs hcut hb ho hk hn hsp hls hr hg;generalize (⟨b.toArray⟩:ByteArray)=bt at *;generalize (⟨a.toArray⟩:ByteArray)=at' at *;go_enter Tryz.func64,Tryz.ntmps64
  go_wp2_with fail;have G0:=Yh (kD HG.out H0.out)
  refine (HC.out _ G0.out).mono ?_
  rintro e w1 ⟨rfl,hb1⟩;have H1:=Yh (H0.out.step hb1)
  have G1:=Yh (kD HG.out H1.out)
  clear hb1 G0 H0;generalize w.heap.size=rb at *
  go_wp2_with fail;refine (oC.out _ G1.out).mono ?_
  rintro e w2 ⟨rfl,hb2⟩;have H2:=Yh (H1.out.step hb2)
  clear hb2 G1 H1;unfold Dm;simp only [Option.getD_some,Option.isSome_some]
  go_wp2_with fail;have h3:=H2.out.push #[Value.int .i64 o,.int .i64 0,.int .i64 0,.int .i64 0,.int .i64 0] 39 rfl
  have h4:=h3.push (ls.map Value.string).toArray 9 rfl
  have G3:=Yh (kD HG.out h3)
  refine (HS.out _ G3.out).mono ?_
  rintro e w3 ⟨rfl,hw3⟩;rw [← hw3] at h4;have H4:=Yh h4
  clear hw3 h3 h4 G3 HS oC HC H2;generalize (w2.alloc (.cells #[Value.int .i64 o,.int .i64 0,.int .i64 0,.int .i64 0,.int .i64 0] 39)).heap.size=lb at *;generalize w2.heap.size=ib at *;clear w2;have hne1:((⟨(eU q).toArray⟩:ByteArray).toList == [76])=false:=by
    have:∀ q,q<8→((⟨(eU q).toArray⟩:ByteArray).toList == [76])=false:=by
      intro q hq;rcases (show q=0∨q=1∨q=2∨q=3∨q=4∨q=5∨q=6∨q=7 by omega) with rfl|rfl|rfl|rfl|rfl|rfl|rfl|rfl <;> kernel_rfl
    exact this q hq
  have hne2:((⟨(eU q).toArray⟩:ByteArray).toList == [83])=false:=by
    have:∀ q,q<8→((⟨(eU q).toArray⟩:ByteArray).toList == [83])=false:=by
      intro q hq;rcases (show q=0∨q=1∨q=2∨q=3∨q=4∨q=5∨q=6∨q=7 by omega) with rfl|rfl|rfl|rfl|rfl|rfl|rfl|rfl <;> kernel_rfl
    exact this q hq
  have HF:=Yh (fun os w W hg=>NH q hq (o:Int) (fun k=>ls.getD k ⟨#[]⟩) vs oks ib lb (some ⟨lb,0,none⟩) W w os hg HR)
  have HH:Hid (∀ k,k<(bz q).length→∀ cs w',aa w (ae ib 39 cs::[ae rb 39 zI,ae lb 9 (ls.map Value.string).toArray]) w'→w'.cell? ⟨lb,k,none⟩=some (.string (ls.getD k ⟨#[]⟩))∧lb<w'.heap.size∧some (⟨lb,0,none⟩:Addr)=some ⟨lb,0,none⟩):=Yh fun k hk cs w' h=>by
    have hb:=h.blk 2 rfl
    refine ⟨(hb.cell k).trans ?_,hb.lt,rfl⟩
    have hk2:k<ls.length:=by have:=X9.out;omega
    rw [List.getElem?_toArray,List.getElem?_map,List.getElem?_eq_getElem hk2];simp [List.getD,hk2]
  generalize hkt:(⟨(eU q).toArray⟩:ByteArray)=kt at *;generalize hm:(bz q).length=m at *;have H5:Hid (aa w (ae ib 39 (aZ o 0 0 0 0)::[ae rb 39 zI,ae lb 9 (ls.map Value.string).toArray]) w3):=Yh (aa.bG (xs:=[ae lb 9 (ls.map Value.string).toArray]) (bs:=[ae ib 39 (aZ o 0 0 0 0),ae rb 39 zI]) H4.out)
  go_wp2_with fail;refine (HK.out _).mono ?_
  rintro e w4 ⟨rfl,rfl⟩;have HB:=Yh (HF.out _ _ _ HG.out HH H5.out)
  clear HF HR HK HH H5 H4
  go_wp2_with fail;refine HB.out.mono ?_
  rintro e w5 ⟨b',cs,rfl,hiff,hcs,h6⟩;clear hne1 hne2 HB
  cases r with
  | true =>
    have hrt:=gG.out
    rw [if_pos rfl] at hrt;obtain ⟨r1,r2,r3⟩:=hrt
    have hb':b'=true:=hiff.2 r1
    subst hb';rw [hcs rfl,r2] at h6;have H6:=Yh h6
    have iC:=Yh (wI o rd rs rt im w5)
    rw [r3] at iC;have bi:=H6.out.blk 0 rfl
    have hil:=bi.lt
    have c0:w5.cell? ⟨ib,0,none⟩=some (.int .i64 o):=(bi.cell 0).trans rfl
    have c1:w5.cell? ⟨ib,1,none⟩=some (.int .i64 rd):=(bi.cell 1).trans rfl
    have c2:w5.cell? ⟨ib,2,none⟩=some (.int .i64 rs):=(bi.cell 2).trans rfl
    have c3:w5.cell? ⟨ib,3,none⟩=some (.int .i64 rt):=(bi.cell 3).trans rfl
    have c4:w5.cell? ⟨ib,4,none⟩=some (.int .i64 im):=(bi.cell 4).trans rfl
    clear hiff hcs h6 bi r1 r2 r3 gG
    go_wp2_with fail;refine iC.out.mono ?_
    rintro e w6 ⟨rfl,hb6⟩;have H7:=Yh (H6.out.step hb6)
    clear c0 c1 c2 c3 c4 hil hb6 iC;have bi:=H7.out.blk 0 rfl
    have hil:=bi.lt
    have c0:w6.cell? ⟨ib,0,none⟩=some (.int .i64 o):=(bi.cell 0).trans rfl
    have c1:w6.cell? ⟨ib,1,none⟩=some (.int .i64 rd):=(bi.cell 1).trans rfl
    have c2:w6.cell? ⟨ib,2,none⟩=some (.int .i64 rs):=(bi.cell 2).trans rfl
    have c3:w6.cell? ⟨ib,3,none⟩=some (.int .i64 rt):=(bi.cell 3).trans rfl
    have c4:w6.cell? ⟨ib,4,none⟩=some (.int .i64 im):=(bi.cell 4).trans rfl
    have bb:=H7.out.blk 1 rfl
    have hbl:=bb.lt
    have hfr:=fun i=>Blk.frozen bb i
    have d0:w6.cell? ⟨rb,0,none⟩=some (.int .i64 0):=(bb.cell 0).trans rfl
    have d1:w6.cell? ⟨rb,1,none⟩=some (.int .i64 0):=(bb.cell 1).trans rfl
    have d2:w6.cell? ⟨rb,2,none⟩=some (.int .i64 0):=(bb.cell 2).trans rfl
    have d3:w6.cell? ⟨rb,3,none⟩=some (.int .i64 0):=(bb.cell 3).trans rfl
    have d4:w6.cell? ⟨rb,4,none⟩=some (.int .i64 0):=(bb.cell 4).trans rfl
    clear bi bb
    go_wp2_with fail;have h8:=H7.out.Bp (o':=o) (rd':=rd) (rs':=rs) (vD:=rt) (im':=im) 1 rfl
    refine bodyPost_ret (v:=.tuple #[.agg (aZ o rd rs rt im),.bool true]) (fJ Tryz.results64 _ _ rb 39 _ _ rfl rfl (h8.blk 1 rfl) (rU _ _ _ _ _)) rfl ?_
    exact ⟨rfl,h8.bel⟩
  | false =>
    have hrt:=gG.out
    rw [if_neg (by simp)] at hrt
    have hb':b'=false:=by
      cases b' with
      | false=>rfl
      | true=>exact absurd (hiff.1 rfl) hrt
    subst hb';have H6:=Yh h6
    have bb:=H6.out.blk 1 rfl
    have hbl:=bb.lt
    have hfr:=fun i=>Blk.frozen bb i
    have d0:w5.cell? ⟨rb,0,none⟩=some (.int .i64 0):=(bb.cell 0).trans rfl
    have d1:w5.cell? ⟨rb,1,none⟩=some (.int .i64 0):=(bb.cell 1).trans rfl
    have d2:w5.cell? ⟨rb,2,none⟩=some (.int .i64 0):=(bb.cell 2).trans rfl
    have d3:w5.cell? ⟨rb,3,none⟩=some (.int .i64 0):=(bb.cell 3).trans rfl
    have d4:w5.cell? ⟨rb,4,none⟩=some (.int .i64 0):=(bb.cell 4).trans rfl
    clear hiff hcs h6 hrt gG bb
    go_wp2_with fail;have h8:=H6.out.Bp (o':=0) (rd':=0) (rs':=0) (vD:=0) (im':=0) 1 rfl
    refine bodyPost_ret (v:=.tuple #[.agg zI,.bool false]) (fJ Tryz.results64 _ _ rb 39 _ _ rfl rfl (h8.blk 1 rfl) (rU _ _ _ _ _)) rfl ?_
    exact ⟨rfl,h8.bel⟩
set_option maxRecDepth 100000 in
theorem NI (w:World) (hg:Gl w):
    Calls Tryz.prog 64 #[.string ⟨#[104,97,108,116]⟩] w fun e w'=>e=.returned (.tuple #[.agg (aZ 0 0 0 0 0),.bool true])∧Below w.heap.size w w':=by
  have H0:Hid (aa w [ae w.heap.size 39 zI] (w.alloc (.cells #[Value.int .i64 0,.int .i64 0,.int .i64 0,.int .i64 0,.int .i64 0] 39))):=Yh ((aa.nil (Below.refl _ _)).push _ _ rfl)
  have HG:=Yh hg
  have HC:=Yh (fun w hg=>xg ⟨#[104,97,108,116]⟩ ⟨#[32]⟩ [104,97,108,116] [] false (by kernel_rfl) (by decide) w hg)
  have oC:=Yh (fun w hg=>G8 ⟨#[104,97,108,116]⟩ w hg)
  rw [show Bj ⟨#[104,97,108,116]⟩=some 0 by kernel_rfl] at oC
  have HK:=Yh (fun W=>mD ((0:Nat):Int) W)
  rw [show ks (kd ((0:Nat):Int))=⟨#[78]⟩ by kernel_rfl] at HK
  clear hg;go_enter Tryz.func64,Tryz.ntmps64
  go_wp2_with fail;have G0:=Yh (kD HG.out H0.out)
  refine (HC.out _ G0.out).mono ?_
  rintro e w1 ⟨rfl,hb1⟩;have H1:=Yh (H0.out.step hb1)
  have G1:=Yh (kD HG.out H1.out)
  clear hb1 G0 H0;generalize w.heap.size=rb at *
  go_wp2_with fail;refine (oC.out _ G1.out).mono ?_
  rintro e w2 ⟨rfl,hb2⟩;have H2:=Yh (H1.out.step hb2)
  clear hb2 G1 H1;unfold Dm;simp only [Option.getD_some,Option.isSome_some]
  go_wp2_with fail;have h3:=H2.out.push #[Value.int .i64 ((0:Nat):Int),.int .i64 0,.int .i64 0,.int .i64 0,.int .i64 0] 39 rfl
  have H3:=Yh h3
  refine (HK.out _).mono ?_
  rintro e w4 ⟨rfl,rfl⟩;have HB:=Yh (NH 0 (by decide) ((0:Nat):Int) (fun _=>⟨#[]⟩) (fun _=>0) (fun _=>true) w2.heap.size 0 none _ _ _ HG.out (Yh (fun k hk=>absurd hk (Nat.not_lt_zero k))) (Yh (fun k hk=>absurd hk (Nat.not_lt_zero k))) h3)
  clear h3
  go_wp2_with fail;refine HB.out.mono ?_
  rintro e w5 ⟨b',cs,rfl,hiff,hcs,h6⟩;clear HB H3;generalize w2.heap.size=ib at *;have hb':b'=true:=hiff.2 (by intros;first|rfl|trivial)
  subst hb';have hcs:=hcs rfl
  subst hcs;have h6':aa w (ae ib 39 (aZ 0 0 0 0 0)::[ae rb 39 zI]) w5:=h6
  clear h6;have h6:=h6'
  clear h6';have H6:=Yh h6
  have iC:=Yh (wI 0 0 0 0 0 w5)
  rw [show jA 0 0 0 0 0=true by kernel_rfl] at iC
  have bi:=H6.out.blk 0 rfl
  have hil:=bi.lt
  have c0:w5.cell? ⟨ib,0,none⟩=some (.int .i64 0):=(bi.cell 0).trans rfl
  have c1:w5.cell? ⟨ib,1,none⟩=some (.int .i64 0):=(bi.cell 1).trans rfl
  have c2:w5.cell? ⟨ib,2,none⟩=some (.int .i64 0):=(bi.cell 2).trans rfl
  have c3:w5.cell? ⟨ib,3,none⟩=some (.int .i64 0):=(bi.cell 3).trans rfl
  have c4:w5.cell? ⟨ib,4,none⟩=some (.int .i64 0):=(bi.cell 4).trans rfl
  clear hiff h6 bi
  go_wp2_with fail;refine iC.out.mono ?_
  rintro e w6 ⟨rfl,hb6⟩;have H7:=Yh (H6.out.step hb6)
  clear c0 c1 c2 c3 c4 hil hb6 iC;have bi:=H7.out.blk 0 rfl
  have hil:=bi.lt
  have c0:w6.cell? ⟨ib,0,none⟩=some (.int .i64 0):=(bi.cell 0).trans rfl
  have c1:w6.cell? ⟨ib,1,none⟩=some (.int .i64 0):=(bi.cell 1).trans rfl
  have c2:w6.cell? ⟨ib,2,none⟩=some (.int .i64 0):=(bi.cell 2).trans rfl
  have c3:w6.cell? ⟨ib,3,none⟩=some (.int .i64 0):=(bi.cell 3).trans rfl
  have c4:w6.cell? ⟨ib,4,none⟩=some (.int .i64 0):=(bi.cell 4).trans rfl
  have bb:=H7.out.blk 1 rfl
  have hbl:=bb.lt
  have hfr:=fun i=>Blk.frozen bb i
  have d0:w6.cell? ⟨rb,0,none⟩=some (.int .i64 0):=(bb.cell 0).trans rfl
  have d1:w6.cell? ⟨rb,1,none⟩=some (.int .i64 0):=(bb.cell 1).trans rfl
  have d2:w6.cell? ⟨rb,2,none⟩=some (.int .i64 0):=(bb.cell 2).trans rfl
  have d3:w6.cell? ⟨rb,3,none⟩=some (.int .i64 0):=(bb.cell 3).trans rfl
  have d4:w6.cell? ⟨rb,4,none⟩=some (.int .i64 0):=(bb.cell 4).trans rfl
  clear bi bb
  go_wp2_with fail;have h8:=H7.out.Bp (o':=0) (rd':=0) (rs':=0) (vD:=0) (im':=0) 1 rfl
  refine bodyPost_ret (v:=.tuple #[.agg (aZ 0 0 0 0 0),.bool true]) (fJ Tryz.results64 _ _ rb 39 _ _ rfl rfl (h8.blk 1 rfl) (rU _ _ _ _ _)) rfl ?_
  exact ⟨rfl,h8.bel⟩
set_option maxRecDepth 100000 in
theorem NJ (L:Bool) (s:ByteArray) (a b:List UInt8) (o:Nat) (x y:ByteArray) (r n p:Int) (hs:s.size≤1000) (hcut:Lib.cut s.data.toList [32]=(a,b,true)) (hb:b.length≤1000)
    (ho:Bj ⟨a.toArray⟩=some o) (hk:ks (kd o)=if L then ⟨#[76]⟩ else ⟨#[83]⟩) (hn:Lib.countB ⟨b.toArray⟩ ⟨#[44,32]⟩+1=2) (hsp:Lib.splitB ⟨#[44,32]⟩ 0 (Lib.countB ⟨b.toArray⟩ ⟨#[44,32]⟩) ⟨b.toArray⟩ = [x,y])
    (HX:Hid (∀ w,Gl w→Calls Tryz.prog 158 #[.string x] w fun e w'=>e=.returned (.tuple #[.int .i64 r,.bool true])∧Below w.heap.size w w'))
    (HY:Hid (∀ w,Gl w→Calls Tryz.prog 159 #[.string y] w fun e w'=>e=.returned (.tuple #[.int .i64 n,.int .i64 p,.bool true])∧Below w.heap.size w w'))
    (hr:if L then jA o r p 0 n=true else jA o 0 p r n=true)
    (w:World) (hg:Gl w):
    Calls Tryz.prog 64 #[.string s] w fun e w'=>e=.returned (.tuple #[.agg (if L then aZ o r p 0 n else aZ o 0 p r n),.bool true])∧Below w.heap.size w w':=by
  have H0:Hid (aa w [ae w.heap.size 39 zI] (w.alloc (.cells #[Value.int .i64 0,.int .i64 0,.int .i64 0,.int .i64 0,.int .i64 0] 39))):=Yh ((aa.nil (Below.refl _ _)).push _ _ rfl)
  have HG:=Yh hg
  have HC:=Yh (fun w hg=>xg s ⟨#[32]⟩ a b true hcut (by omega) w hg)
  have oC:=Yh (fun w hg=>G8 ⟨a.toArray⟩ w hg)
  rw [ho] at oC;have HK:=Yh (fun W=>mD (o:Int) W)
  rw [hk] at HK;have gG:=Yh hr
  have HS:Hid (∀ w,Gl w→Calls Tryz.prog 33 #[.string ⟨b.toArray⟩,.string ⟨#[44,32]⟩] w fun e w'=>e=.returned (.slice (some ⟨w.heap.size,0,none⟩) 2 2)∧w'=w.alloc (.cells #[.string x,.string y] 9)):=Yh fun w hg=>by
    obtain ⟨m,hm⟩:=hg.max
    have:=Tryz.strings_Split ⟨b.toArray⟩ ⟨#[44,32]⟩ m w (by show b.toArray.size<_;rw [List.size_toArray];omega) hm (by decide)
    rw [hsp,hn] at this;exact this
  clear hs hcut hb ho hk hn hsp hr hg;generalize (⟨b.toArray⟩:ByteArray)=bt at *;generalize (⟨a.toArray⟩:ByteArray)=at' at *;go_enter Tryz.func64,Tryz.ntmps64
  go_wp2_with fail;have G0:=Yh (kD HG.out H0.out)
  refine (HC.out _ G0.out).mono ?_
  rintro e w1 ⟨rfl,hb1⟩;have H1:=Yh (H0.out.step hb1)
  have G1:=Yh (kD HG.out H1.out)
  clear hb1 G0 H0;generalize w.heap.size=rb at *
  go_wp2_with fail;refine (oC.out _ G1.out).mono ?_
  rintro e w2 ⟨rfl,hb2⟩;have H2:=Yh (H1.out.step hb2)
  clear hb2 G1 H1;unfold Dm;simp only [Option.getD_some,Option.isSome_some]
  go_wp2_with fail;have h3:=H2.out.push #[Value.int .i64 o,.int .i64 0,.int .i64 0,.int .i64 0,.int .i64 0] 39 rfl
  have h4:=h3.push #[.string x,.string y] 9 rfl
  have G3:=Yh (kD HG.out h3)
  refine (HS.out _ G3.out).mono ?_
  rintro e w3 ⟨rfl,hw3⟩;rw [← hw3] at h4;have H4:=Yh h4
  clear hw3 h3 h4 G3 HS oC HC H2;generalize (w2.alloc (.cells #[Value.int .i64 o,.int .i64 0,.int .i64 0,.int .i64 0,.int .i64 0] 39)).heap.size=lb at *;generalize w2.heap.size=ib at *;clear w2;have H5:Hid (aa w (ae ib 39 (aZ o 0 0 0 0)::ae lb 9 #[.string x,.string y]::[ae rb 39 zI]) w3):=Yh (aa.sub H4.out (fun i=>if i=0 then 1 else if i=1 then 0 else i) (fun i O hi=>by
    match i,hi with
    | 0,hi=>exact hi
    | 1,hi=>exact hi
    | 2,hi=>exact hi
    | i+3,hi=>exact absurd hi (by simp)) (fun i j hi hj e=>by
    have e:(if i=0 then 1 else if i=1 then 0 else i)=(if j=0 then 1 else if j=1 then 0 else j):=e
    split at e <;> split at e <;> (try split at e) <;> (try split at e) <;> omega))
  go_wp2_with fail;refine (HK.out _).mono ?_
  rintro e w4 ⟨rfl,rfl⟩;have HB:=Yh (XL L o x y r n p w _ _ ib lb HX HY HG.out H5.out)
  clear HX HY HK H5 H4
  cases L with
  | true =>
    have hrt:=gG.out
    simp only [if_true,if_false,Bool.false_eq_true] at HB hrt ⊢
    go_wp2_with fail;refine HB.out.mono ?_
    rintro e w5 ⟨rfl,h6⟩;have H6:=Yh h6
    clear HB;have iC:=Yh (wI o r p 0 n w5)
    rw [hrt] at iC;have bi:=H6.out.blk 0 rfl
    have hil:=bi.lt
    have c0:w5.cell? ⟨ib,0,none⟩=some (.int .i64 o):=(bi.cell 0).trans rfl
    have c1:w5.cell? ⟨ib,1,none⟩=some (.int .i64 r):=(bi.cell 1).trans rfl
    have c2:w5.cell? ⟨ib,2,none⟩=some (.int .i64 p):=(bi.cell 2).trans rfl
    have c3:w5.cell? ⟨ib,3,none⟩=some (.int .i64 0):=(bi.cell 3).trans rfl
    have c4:w5.cell? ⟨ib,4,none⟩=some (.int .i64 n):=(bi.cell 4).trans rfl
    clear h6 bi hrt gG
    go_wp2_with fail;refine iC.out.mono ?_
    rintro e w6 ⟨rfl,hb6⟩;have H7:=Yh (H6.out.step hb6)
    clear c0 c1 c2 c3 c4 hil hb6 iC;have bi:=H7.out.blk 0 rfl
    have hil:=bi.lt
    have c0:w6.cell? ⟨ib,0,none⟩=some (.int .i64 o):=(bi.cell 0).trans rfl
    have c1:w6.cell? ⟨ib,1,none⟩=some (.int .i64 r):=(bi.cell 1).trans rfl
    have c2:w6.cell? ⟨ib,2,none⟩=some (.int .i64 p):=(bi.cell 2).trans rfl
    have c3:w6.cell? ⟨ib,3,none⟩=some (.int .i64 0):=(bi.cell 3).trans rfl
    have c4:w6.cell? ⟨ib,4,none⟩=some (.int .i64 n):=(bi.cell 4).trans rfl
    have bb:=H7.out.blk 2 rfl
    have hbl:=bb.lt
    have hfr:=fun i=>Blk.frozen bb i
    have d0:w6.cell? ⟨rb,0,none⟩=some (.int .i64 0):=(bb.cell 0).trans rfl
    have d1:w6.cell? ⟨rb,1,none⟩=some (.int .i64 0):=(bb.cell 1).trans rfl
    have d2:w6.cell? ⟨rb,2,none⟩=some (.int .i64 0):=(bb.cell 2).trans rfl
    have d3:w6.cell? ⟨rb,3,none⟩=some (.int .i64 0):=(bb.cell 3).trans rfl
    have d4:w6.cell? ⟨rb,4,none⟩=some (.int .i64 0):=(bb.cell 4).trans rfl
    clear bi bb
    go_wp2_with fail;have h8:=H7.out.Bp (o':=o) (rd':=r) (rs':=p) (vD:=0) (im':=n) 2 rfl
    refine bodyPost_ret (v:=.tuple #[.agg (aZ o r p 0 n),.bool true]) (fJ Tryz.results64 _ _ rb 39 _ _ rfl rfl (h8.blk 2 rfl) (rU _ _ _ _ _)) rfl ?_
    exact ⟨rfl,h8.bel⟩
  | false =>
    have hrt:=gG.out
    simp only [if_true,if_false,Bool.false_eq_true] at HB hrt ⊢
    go_wp2_with fail;refine HB.out.mono ?_
    rintro e w5 ⟨rfl,h6⟩;have H6:=Yh h6
    clear HB;have iC:=Yh (wI o 0 p r n w5)
    rw [hrt] at iC;have bi:=H6.out.blk 0 rfl
    have hil:=bi.lt
    have c0:w5.cell? ⟨ib,0,none⟩=some (.int .i64 o):=(bi.cell 0).trans rfl
    have c1:w5.cell? ⟨ib,1,none⟩=some (.int .i64 0):=(bi.cell 1).trans rfl
    have c2:w5.cell? ⟨ib,2,none⟩=some (.int .i64 p):=(bi.cell 2).trans rfl
    have c3:w5.cell? ⟨ib,3,none⟩=some (.int .i64 r):=(bi.cell 3).trans rfl
    have c4:w5.cell? ⟨ib,4,none⟩=some (.int .i64 n):=(bi.cell 4).trans rfl
    clear h6 bi hrt gG
    go_wp2_with fail;refine iC.out.mono ?_
    rintro e w6 ⟨rfl,hb6⟩;have H7:=Yh (H6.out.step hb6)
    clear c0 c1 c2 c3 c4 hil hb6 iC;have bi:=H7.out.blk 0 rfl
    have hil:=bi.lt
    have c0:w6.cell? ⟨ib,0,none⟩=some (.int .i64 o):=(bi.cell 0).trans rfl
    have c1:w6.cell? ⟨ib,1,none⟩=some (.int .i64 0):=(bi.cell 1).trans rfl
    have c2:w6.cell? ⟨ib,2,none⟩=some (.int .i64 p):=(bi.cell 2).trans rfl
    have c3:w6.cell? ⟨ib,3,none⟩=some (.int .i64 r):=(bi.cell 3).trans rfl
    have c4:w6.cell? ⟨ib,4,none⟩=some (.int .i64 n):=(bi.cell 4).trans rfl
    have bb:=H7.out.blk 2 rfl
    have hbl:=bb.lt
    have hfr:=fun i=>Blk.frozen bb i
    have d0:w6.cell? ⟨rb,0,none⟩=some (.int .i64 0):=(bb.cell 0).trans rfl
    have d1:w6.cell? ⟨rb,1,none⟩=some (.int .i64 0):=(bb.cell 1).trans rfl
    have d2:w6.cell? ⟨rb,2,none⟩=some (.int .i64 0):=(bb.cell 2).trans rfl
    have d3:w6.cell? ⟨rb,3,none⟩=some (.int .i64 0):=(bb.cell 3).trans rfl
    have d4:w6.cell? ⟨rb,4,none⟩=some (.int .i64 0):=(bb.cell 4).trans rfl
    clear bi bb
    go_wp2_with fail;have h8:=H7.out.Bp (o':=o) (rd':=0) (rs':=p) (vD:=r) (im':=n) 2 rfl
    refine bodyPost_ret (v:=.tuple #[.agg (aZ o 0 p r n),.bool true]) (fJ Tryz.results64 _ _ rb 39 _ _ rfl rfl (h8.blk 2 rfl) (rU _ _ _ _ _)) rfl ?_
    exact ⟨rfl,h8.bel⟩
def fM (k:Nat):List UInt8:=if k<10 then [UInt8.ofNat (48+k)] else [UInt8.ofNat (48+k / 10),UInt8.ofNat (48+k % 10)]
def kF (g:Nat):ByteArray:=⟨#[114,UInt8.ofNat (48+g)]⟩
def vE (k:Nat):ByteArray:=⟨(fM k).toArray⟩
def oD (g k:Nat):ByteArray:=⟨([108,105,32,114,UInt8.ofNat (48+g),44,32]++fM k).toArray⟩
def yZ:ByteArray:=⟨#[115,108,108,105,32,114,49,44,32,114,49,44,32,51,48]⟩
def tT (k:Nat):ByteArray:=⟨([115,100,32,114,50,44,32]++fM k++[40,114,49,41]).toArray⟩
def za:ByteArray:=⟨#[108,100,32,114,51,44,32,48,40,114,49,41]⟩
def Dv:ByteArray:=⟨#[97,100,100,105,32,114,50,44,32,114,50,44,32,45,49]⟩
def kG:ByteArray:=⟨#[98,110,101,32,114,50,44,32,114,48,44,32,108,111,111,112]⟩
def Hr:ByteArray:=⟨#[98,110,101,32,114,50,44,32,114,48,44,32,48]⟩
def Dw:ByteArray:=⟨#[104,97,108,116]⟩
theorem qK (g:Nat) (hg:g<4) (w:World) (h:Gl w):Calls Tryz.prog 158 #[.string (kF g)] w fun e w'=>e=.returned (.tuple #[.int .i64 g,.bool true])∧Below w.heap.size w w':=by
  refine NB (kF g) g ?_ ?_ w h
  · have:∀ g,g<4→(Lib.trimPrefix (kF g).data.toList [114]).length≤1000:=of_decide_eq_true (by kernel_rfl)
    exact this g hg
  · have:∀ g,g<4→yX (kF g)=some (g:Int):=of_decide_eq_true (by kernel_rfl)
    exact this g hg
theorem Ht (k:Nat) (hk:k<31) (w:World) (h:Gl w):Calls Tryz.prog 160 #[.string (vE k)] w fun e w'=>e=.returned (.tuple #[.int .i64 k,.bool true])∧Below w.heap.size w w':=by
  refine Hd (vE k) k ?_ ?_ w h
  · have:∀ k,k<31→(vE k).size≤1000:=of_decide_eq_true (by kernel_rfl)
    exact this k hk
  · have:∀ k,k<31→pM (vE k)=some (k:Int):=of_decide_eq_true (by kernel_rfl)
    exact this k hk
theorem NK (k:Nat) (hk:k<21) (w:World) (h:Gl w):Calls Tryz.prog 159 #[.string ⟨(fM k++[40,114,49,41]).toArray⟩] w fun e w'=>e=.returned (.tuple #[.int .i64 k,.int .i64 1,.bool true])∧Below w.heap.size w w':=by
  refine XK _ (fM k) [114,49,41] true k 1 ?_ ?_ rfl ?_ (by decide) ?_ ?_ ?_ w h
  · have:∀ k,k<21→(⟨(fM k++[40,114,49,41]).toArray⟩:ByteArray).size≤1000:=of_decide_eq_true (by kernel_rfl)
    exact this k hk
  · have:∀ k,k<21→Lib.cut (⟨(fM k++[40,114,49,41]).toArray⟩:ByteArray).data.toList [40]=(fM k,[114,49,41],true):=of_decide_eq_true (by kernel_rfl)
    exact this k hk
  · have:∀ k,k<21→(fM k).length≤1000:=of_decide_eq_true (by kernel_rfl)
    exact this k hk
  · have:∀ k,k<21→pM ⟨(fM k).toArray⟩=some (k:Int):=of_decide_eq_true (by kernel_rfl)
    exact this k hk
  · kernel_rfl
  · decide
theorem Dx (g k:Nat) (hg:g<3) (hk:k<21) (w:World) (h:Gl w):Calls Tryz.prog 64 #[.string (oD g k)] w fun e w'=>e=.returned (.tuple #[.agg (aZ 1 g 0 0 k),.bool true])∧Below w.heap.size w w':=by
  have h1:∀ g,g<3→∀ k,k<21→(oD g k).size≤1000∧Lib.cut (oD g k).data.toList [32]=([108,105],[114,UInt8.ofNat (48+g),44,32]++fM k,true)∧([114,UInt8.ofNat (48+g),44,32]++fM k).length≤1000 ∧
    Lib.countB ⟨([114,UInt8.ofNat (48+g),44,32]++fM k).toArray⟩ ⟨#[44,32]⟩+1=2∧Lib.splitB ⟨#[44,32]⟩ 0 (Lib.countB ⟨([114,UInt8.ofNat (48+g),44,32]++fM k).toArray⟩ ⟨#[44,32]⟩) ⟨([114,UInt8.ofNat (48+g),44,32]++fM k).toArray⟩ = [kF g,vE k]∧jA 1 g 0 0 k=true:=of_decide_eq_true (by kernel_rfl)
  obtain ⟨a1,a2,a3,a4,a5,a6⟩:=h1 g hg k hk
  exact Bq true (oD g k) _ _ 1 1 [kF g,vE k] (fun j=>if j=0 then g else k) (fun _=>true) g 0 0 k a1 a2 a3 (by kernel_rfl) (by decide) (by kernel_rfl) a4 a5 rfl
    (Yh fun j hj w hw=>match j,hj with
      | 0,_=>qK g (by omega) w hw
      | 1,_=>Ht k (by omega) w hw
      | j+2,hj=>absurd hj (by show ¬ j+2<2;omega)) (by rw [if_pos rfl];exact ⟨fun _ _=>rfl,rfl,a6⟩) w h
theorem NL (w:World) (h:Gl w):Calls Tryz.prog 64 #[.string yZ] w fun e w'=>e=.returned (.tuple #[.agg (aZ 3 1 1 0 30),.bool true])∧Below w.heap.size w w':=
  Bq true yZ [115,108,108,105] [114,49,44,32,114,49,44,32,51,48] 3 3 [kF 1,kF 1,vE 30] (fun j=>if j=2 then 30 else 1) (fun _=>true) 1 1 0 30 (by decide) (by kernel_rfl) (by decide) (by kernel_rfl) (by decide) (by kernel_rfl) (by kernel_rfl) (by kernel_rfl) rfl
    (Yh fun j hj w hw=>match j,hj with
      | 0,_=>qK 1 (by omega) w hw
      | 1,_=>qK 1 (by omega) w hw
      | 2,_=>Ht 30 (by omega) w hw
      | j+3,hj=>absurd hj (by show ¬ j+3<3;omega)) (by rw [if_pos rfl];exact ⟨fun _ _=>rfl,rfl,by kernel_rfl⟩) w h
theorem Ya (w:World) (h:Gl w):Calls Tryz.prog 64 #[.string Dv] w fun e w'=>e=.returned (.tuple #[.agg (aZ 2 2 2 0 (-1)),.bool true])∧Below w.heap.size w w':=
  Bq true Dv [97,100,100,105] [114,50,44,32,114,50,44,32,45,49] 3 2 [kF 2,kF 2,⟨#[45,49]⟩] (fun j=>if j=2 then -1 else 2) (fun _=>true) 2 2 0 (-1) (by decide) (by kernel_rfl) (by decide) (by kernel_rfl) (by decide) (by kernel_rfl) (by kernel_rfl) (by kernel_rfl) rfl
    (Yh fun j hj w hw=>match j,hj with
      | 0,_=>qK 2 (by omega) w hw
      | 1,_=>qK 2 (by omega) w hw
      | 2,_=>Hd ⟨#[45,49]⟩ (-1) (by decide) (by kernel_rfl) w hw
      | j+3,hj=>absurd hj (by show ¬ j+3<3;omega)) (by rw [if_pos rfl];exact ⟨fun _ _=>rfl,rfl,by kernel_rfl⟩) w h
theorem Yb (w:World) (h:Gl w):Calls Tryz.prog 64 #[.string Hr] w fun e w'=>e=.returned (.tuple #[.agg (aZ 16 0 2 0 0),.bool true])∧Below w.heap.size w w':=
  Bq true Hr [98,110,101] [114,50,44,32,114,48,44,32,48] 7 16 [kF 2,kF 0,vE 0] (fun j=>if j=0 then 2 else 0) (fun _=>true) 0 2 0 0 (by decide) (by kernel_rfl) (by decide) (by kernel_rfl) (by decide) (by kernel_rfl) (by kernel_rfl) (by kernel_rfl) rfl
    (Yh fun j hj w hw=>match j,hj with
      | 0,_=>qK 2 (by omega) w hw
      | 1,_=>qK 0 (by omega) w hw
      | 2,_=>Ht 0 (by omega) w hw
      | j+3,hj=>absurd hj (by show ¬ j+3<3;omega)) (by rw [if_pos rfl];exact ⟨fun _ _=>rfl,rfl,by kernel_rfl⟩) w h
theorem Yc (w:World) (h:Gl w):Calls Tryz.prog 64 #[.string kG] w fun e w'=>e=.returned (.tuple #[.agg zI,.bool false])∧Below w.heap.size w w':=
  Bq false kG [98,110,101] [114,50,44,32,114,48,44,32,108,111,111,112] 7 16 [kF 2,kF 0,⟨#[108,111,111,112]⟩] (fun j=>if j=0 then 2 else 0) (fun j=>decide (j≠2)) 0 0 0 0 (by decide) (by kernel_rfl) (by decide) (by kernel_rfl) (by decide) (by kernel_rfl) (by kernel_rfl) (by kernel_rfl) rfl
    (Yh fun j hj w hw=>match j,hj with
      | 0,_=>qK 2 (by omega) w hw
      | 1,_=>qK 0 (by omega) w hw
      | 2,_=>XJ ⟨#[108,111,111,112]⟩ ⟨by decide,of_decide_eq_true (by kernel_rfl)⟩ (by kernel_rfl) w hw
      | j+3,hj=>absurd hj (by show ¬ j+3<3;omega)) (by rw [if_neg (by simp)];exact fun h=>absurd (h 2 (by decide)) (by simp)) w h
theorem NM (k:Nat) (hk:k<10) (w:World) (h:Gl w):Calls Tryz.prog 64 #[.string (tT k)] w fun e w'=>e=.returned (.tuple #[.agg (aZ 29 0 1 2 k),.bool true])∧Below w.heap.size w w':=by
  have h1:∀ k,k<10→(tT k).size≤1000∧Lib.cut (tT k).data.toList [32]=([115,100],[114,50,44,32]++fM k++[40,114,49,41],true)∧([114,50,44,32]++fM k++[40,114,49,41]).length≤1000 ∧
    Lib.countB ⟨([114,50,44,32]++fM k++[40,114,49,41]).toArray⟩ ⟨#[44,32]⟩+1=2∧Lib.splitB ⟨#[44,32]⟩ 0 (Lib.countB ⟨([114,50,44,32]++fM k++[40,114,49,41]).toArray⟩ ⟨#[44,32]⟩) ⟨([114,50,44,32]++fM k++[40,114,49,41]).toArray⟩ = [kF 2,⟨(fM k++[40,114,49,41]).toArray⟩]∧jA 29 0 1 2 k=true:=of_decide_eq_true (by kernel_rfl)
  obtain ⟨a1,a2,a3,a4,a5,a6⟩:=h1 k hk
  have hy:=Yh (fun w hw=>NK k (by omega) w hw)
  have hx:=Yh (fun w hw=>qK 2 (by omega) w hw)
  generalize (⟨(fM k++[40,114,49,41]).toArray⟩:ByteArray)=y at *;generalize [114,50,44,32]++fM k++[40,114,49,41]=b at *;generalize kF 2=x at *;generalize tT k=t at *;have:=NJ false t _ _ 29 x y 2 k 1 a1 a2 a3 (by kernel_rfl) (by kernel_rfl) a4 a5 hx hy (by rw [if_neg (by simp)];exact a6) w h
  simpa using this
theorem Yd (w:World) (h:Gl w):Calls Tryz.prog 64 #[.string za] w fun e w'=>e=.returned (.tuple #[.agg (aZ 22 3 1 0 0),.bool true])∧Below w.heap.size w w':=by
  have h1:za.size≤1000∧Lib.cut za.data.toList [32]=([108,100],[114,51,44,32,48,40,114,49,41],true) ∧
    Lib.countB ⟨#[114,51,44,32,48,40,114,49,41]⟩ ⟨#[44,32]⟩+1=2∧Lib.splitB ⟨#[44,32]⟩ 0 (Lib.countB ⟨#[114,51,44,32,48,40,114,49,41]⟩ ⟨#[44,32]⟩) ⟨#[114,51,44,32,48,40,114,49,41]⟩ = [kF 3,⟨(fM 0++[40,114,49,41]).toArray⟩]∧jA 22 3 1 0 0=true:=of_decide_eq_true (by kernel_rfl)
  obtain ⟨a1,a2,a4,a5,a6⟩:=h1
  have hy:=Yh (fun w hw=>NK 0 (by omega) w hw)
  have hx:=Yh (fun w hw=>qK 3 (by omega) w hw)
  generalize (⟨(fM 0++[40,114,49,41]).toArray⟩:ByteArray)=y at *;generalize kF 3=x at *;generalize za=t at *;have:=NJ true t _ _ 22 x y 3 (0:Nat) 1 a1 a2 (by decide) (by kernel_rfl) (by kernel_rfl) a4 a5 hx hy (by rw [if_pos rfl];exact a6) w h
  simpa using this
end Go.Proofs.YtnebdlchogmneaaGreatDoor
