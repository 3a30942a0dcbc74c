/- Texts of the proof: PlanT, TlbK, TlbL, TlbM, TlbPa, WalkA, WalkW, WalkB, WalkM, WalkP. -/
import Derived.Test.YtnebdlchogmneaaGreatDoorPk1
import Derived.Test.YtnebdlchogmneaaGreatDoorPk5
import Derived.Test.YtnebdlchogmneaaGreatDoorPk2
import Derived.Test.YtnebdlchogmneaaGreatDoorPk4
import Derived.Test.YtnebdlchogmneaaGreatDoorPk3
import Derived.WalkMore
import Derived.ScopeJumps
set_option maxRecDepth 100000
set_option maxHeartbeats 8000000
set_option linter.unusedVariables false
set_option linter.unusedSimpArgs false
namespace Go.Proofs.YtnebdlchogmneaaGreatDoor
open Go.RowKit
inductive PT where
  | done
  | step (i:Nat) (r:PT)
  | turn (i:Nat) (r:PT)
  | fork (i:Nat) (ri:PT) (j:Nat) (rj:PT)
  | yt (i:Nat) (ri:PT) (j:Nat) (rj:PT) (k:Nat) (rk:PT)
  | rest (k:Nat) (L:Array Bool)
def PT.steps:List Nat→PT→PT
  | [],r=>r
  | i::l,r=>.step i (PT.steps l r)
def PT.depth:PT→Nat
  | .done=>0
  | .step _ r=>r.depth+1
  | .turn _ r=>r.depth+1
  | .fork _ ri _ rj=>max ri.depth rj.depth+1
  | .yt _ ri _ rj _ rk=>max (max ri.depth rj.depth) rk.depth+1
  | .rest k _=>k
section
variable {P:Program} {ops:Array Oper} {Q:Exit→Act→World→Prop} {md:Region.Mode} {R:World→World→Prop}
def dx (R:World→World→Prop) (P:Program) (ops:Array Oper) (Q:Exit→Act→World→Prop):PT→Act→World→Prop
  | .done,a,w=>Q .normal a w
  | .step i r,a,w=>∃ o v,ops[i]? = some o∧kZ P ops (R w) o v a∧dx R P ops Q r (a.put o.dst v) w
  | .turn i r,a,w=>wpOp P ops Q i (fun a' w'=>(jJ .any ops i=true∨R w w')∧dx R P ops Q r a' w') a w
  | .fork i ri j rj,a,w=>wpOp P ops Q i (fun a' w'=>(jJ .any ops i=true∨R w w')∧dx R P ops Q ri a' w') a w ∧
      wpOp P ops Q j (fun a' w'=>(jJ .any ops j=true∨R w w')∧dx R P ops Q rj a' w') a w
  | .yt i ri j rj k rk,a,w=>wpOp P ops Q i (fun a' w'=>(jJ .any ops i=true∨R w w')∧dx R P ops Q ri a' w') a w ∧
      wpOp P ops Q j (fun a' w'=>(jJ .any ops j=true∨R w w')∧dx R P ops Q rj a' w') a w ∧
      wpOp P ops Q k (fun a' w'=>(jJ .any ops k=true∨R w w')∧dx R P ops Q rk a' w') a w
  | .rest k L,a,w=>∀ n,k≤n→AnyE R P .any ops Q n L a w
def kQ (md:Region.Mode) (ops:Array Oper):PT→Array Bool→Bool
  | .done,listed=>(Region.ready md ops listed).isEmpty
  | .step i r,listed=>Region.free md ops listed i&&(Region.ready md ops listed).contains i&&kQ md ops r (listed.setIfInBounds i true)
  | .turn i r,listed=>Region.ready md ops listed == [i] && kQ md ops r (listed.setIfInBounds i true)
  | .fork i ri j rj,listed=>Region.ready md ops listed == [i,j] && kQ md ops ri (listed.setIfInBounds i true)&&kQ md ops rj (listed.setIfInBounds j true)
  | .yt i ri j rj k rk,listed=>Region.ready md ops listed == [i,j,k] && kQ md ops ri (listed.setIfInBounds i true)&&kQ md ops rj (listed.setIfInBounds j true)&&kQ md ops rk (listed.setIfInBounds k true)
  | .rest _ L,listed=>L==listed
theorem rJ (hR:Later R) (hs:Region.noSelect ops=true) (hQ:∀ c d v a w,Q (.panic c) (a.put d v) w→Q (.panic c) a w):
    ∀ (l:PT) (n:Nat) (listed:Array Bool) (a:Act) (w:World),su .any ops listed→l.depth≤n→kQ .any ops l listed=true→dx R P ops Q l a w→AnyE R P .any ops Q n listed a w
  | .done,n,listed,a,w,hcl,_,hp,h=>by
    simp only [kQ,List.isEmpty_iff] at hp
    cases n with
    | zero=>exact ⟨hp,h⟩
    | succ n=>exact ⟨fun _=>h,fun i hi=>by rw [hp] at hi;cases hi⟩
  | .step i r,n,listed,a,w,hcl,hn,hp,h=>by
    simp only [kQ,Bool.and_eq_true] at hp
    obtain ⟨o,v,ho,hy,h⟩:=h
    obtain ⟨n,rfl⟩:∃ k,n=k+1:=⟨n-1,by simp only [PT.depth] at hn;omega⟩
    exact Jk hR ho (Region.noSelect_spec hs) (fun c a w=>hQ c o.dst v a w) n listed a w hcl (Region.free_spec ho hp.1.1) (by simpa using hp.1.2) hy
      (rJ hR hs hQ r n _ _ _ (qY hcl (by simpa using hp.1.2)) (by simp only [PT.depth] at hn;omega) hp.2 h)
  | .turn i r,n,listed,a,w,hcl,hn,hp,h=>by
    simp only [kQ,Bool.and_eq_true,beq_iff_eq] at hp
    obtain ⟨n,rfl⟩:∃ k,n=k+1:=⟨n-1,by simp only [PT.depth] at hn;omega⟩
    refine ⟨fun h0=>(by rw [hp.1] at h0;cases h0),fun j hj=>?_⟩
    rw [hp.1] at hj;obtain rfl:j=i:=by simpa using hj
    exact wpOp_mono (fun a' w' h'=>⟨h'.1,rJ hR hs hQ r n _ _ _ (qY hcl (by rw [hp.1];simp)) (by simp only [PT.depth] at hn;omega) hp.2 h'.2⟩) h
  | .fork i ri j rj,n,listed,a,w,hcl,hn,hp,h=>by
    simp only [kQ,Bool.and_eq_true,beq_iff_eq] at hp
    obtain ⟨n,rfl⟩:∃ k,n=k+1:=⟨n-1,by simp only [PT.depth] at hn;omega⟩
    refine ⟨fun h0=>(by rw [hp.1.1] at h0;cases h0),fun k hk=>?_⟩
    rw [hp.1.1] at hk;rcases (show k=i∨k=j by simpa using hk) with rfl|rfl
    · exact wpOp_mono (fun a' w' h'=>⟨h'.1,rJ hR hs hQ ri n _ _ _ (qY hcl (by rw [hp.1.1];simp)) (by simp only [PT.depth] at hn;omega) hp.1.2 h'.2⟩) h.1
    · exact wpOp_mono (fun a' w' h'=>⟨h'.1,rJ hR hs hQ rj n _ _ _ (qY hcl (by rw [hp.1.1];simp)) (by simp only [PT.depth] at hn;omega) hp.2 h'.2⟩) h.2
  | .yt i ri j rj k rk,n,listed,a,w,hcl,hn,hp,h=>by
    simp only [kQ,Bool.and_eq_true,beq_iff_eq] at hp
    obtain ⟨n,rfl⟩:∃ k,n=k+1:=⟨n-1,by simp only [PT.depth] at hn;omega⟩
    refine ⟨fun h0=>(by rw [hp.1.1.1] at h0;cases h0),fun m hm=>?_⟩
    rw [hp.1.1.1] at hm;rcases (show m=i∨m=j∨m=k by simpa using hm) with rfl|rfl|rfl
    · exact wpOp_mono (fun a' w' h'=>⟨h'.1,rJ hR hs hQ ri n _ _ _ (qY hcl (by rw [hp.1.1.1];simp)) (by simp only [PT.depth] at hn;omega) hp.1.1.2 h'.2⟩) h.1
    · exact wpOp_mono (fun a' w' h'=>⟨h'.1,rJ hR hs hQ rj n _ _ _ (qY hcl (by rw [hp.1.1.1];simp)) (by simp only [PT.depth] at hn;omega) hp.1.2 h'.2⟩) h.2.1
    · exact wpOp_mono (fun a' w' h'=>⟨h'.1,rJ hR hs hQ rk n _ _ _ (qY hcl (by rw [hp.1.1.1];simp)) (by simp only [PT.depth] at hn;omega) hp.2 h'.2⟩) h.2.2
  | .rest k L,n,listed,a,w,hcl,hn,hp,h=>by
    simp only [kQ,beq_iff_eq] at hp
    subst hp;exact h n hn
theorem wp_region_pt (R:World→World→Prop) (hR:Later R) {id:Nat} {a:Act} {w:World} (l:PT) (hm:P.follows .mixedOrders=true)
    (hl:(Region.noSelect ops&&decide (l.depth≤ops.size)&&kQ .any ops l (Array.replicate ops.size false))=true)
    (hQ:∀ c d v a w,Q (.panic c) (a.put d v) w→Q (.panic c) a w)
    (h:dx R P ops Q l a w.drew):(Code.region id ops true).wp P Q a w:=by
  simp only [Bool.and_eq_true,decide_eq_true_eq] at hl
  exact wp_region_any hm (Em (R:=R) _ _ _ _ (rJ hR hl.1.1 hQ l ops.size _ a w.drew (Jj _) hl.1.2 hl.2 h))
variable {ls:List Oper}
theorem pt_take {i:Nat} {o:Oper} {v:Value} {r:PT} {a:Act} {w:World} (ho:opAt ls i=some o) (hw:Region.wanted o (yielded ls.toArray a.tmps)=true)
    (hy:∀ w',R w w'→(execOp a.eval o).run P w'=.ok (.value v) w') (h:dx R P ls.toArray Q r (a.put o.dst v) w):dx R P ls.toArray Q (.step i r) a w:=
  ⟨o,v,by rw [← mf];exact ho,.inl ⟨hw,fun w' h'=>.inl (hy w' h')⟩,h⟩
theorem dw {i:Nat} {o:Oper} {r:PT} {a:Act} {w:World} (ho:opAt ls i=some o) (hw:Region.wanted o (yielded ls.toArray a.tmps)=true)
    (h:∀ K:Act→World→Prop,(∀ a' w',R w w'∧dx R P ls.toArray Q r a' w'→K a' w')→o.wp P a w K Q):
    wpOp P ls.toArray Q i (fun a' w'=>(jJ .any ls.toArray i=true∨R w w')∧dx R P ls.toArray Q r a' w') a w:=by
  unfold wpOp;simp only [← mf,ho,hw,if_true]
  exact .inl (h _ fun _ _ h=>⟨.inr h.1,h.2⟩)
theorem pt_opcall {i:Nat} {o:Oper} {r:PT} {a:Act} {w:World} {f:FuncId} {args:Array Value} (ho:opAt ls i=some o) (hw:Region.wanted o (yielded ls.toArray a.tmps)=true)
    (hx:(execOp a.eval o).run P w=.ok (.enter f args) w)
    (h:Calls P f args w fun e w'=>∃ v,e=.returned v∧R w w'∧dx R P ls.toArray Q r (a.put o.dst v) w'):
    wpOp P ls.toArray Q i (fun a' w'=>(jJ .any ls.toArray i=true∨R w w')∧dx R P ls.toArray Q r a' w') a w:=by
  refine dw ho hw fun K hK=>?_
  unfold Oper.wp;rw [hx];refine h.mono ?_
  rintro e w' ⟨v,rfl,h1,h2⟩;exact hK _ _ ⟨h1,h2⟩
theorem uK {i j:Nat} {ri rj:PT} {a:Act} {w:World} (h1:wpOp P ops Q i (fun a' w'=>(jJ .any ops i=true∨R w w')∧dx R P ops Q ri a' w') a w)
    (h2:wpOp P ops Q j (fun a' w'=>(jJ .any ops j=true∨R w w')∧dx R P ops Q rj a' w') a w):dx R P ops Q (.fork i ri j rj) a w:=⟨h1,h2⟩
theorem SG {i j k:Nat} {ri rj rk:PT} {a:Act} {w:World} (h1:wpOp P ops Q i (fun a' w'=>(jJ .any ops i=true∨R w w')∧dx R P ops Q ri a' w') a w)
    (h2:wpOp P ops Q j (fun a' w'=>(jJ .any ops j=true∨R w w')∧dx R P ops Q rj a' w') a w)
    (h3:wpOp P ops Q k (fun a' w'=>(jJ .any ops k=true∨R w w')∧dx R P ops Q rk a' w') a w):dx R P ops Q (.yt i ri j rj k rk) a w:=⟨h1,h2,h3⟩
theorem fB {i:Nat} {r:PT} {a:Act} {w:World} (h1:wpOp P ops Q i (fun a' w'=>(jJ .any ops i=true∨R w w')∧dx R P ops Q r a' w') a w):dx R P ops Q (.turn i r) a w:=h1
theorem uM {a:Act} {w:World} (h:Q .normal a w):dx R P ops Q .done a w:=h
end
def wO (s:Int):Bool:=s==1||s==2||s==4||s==8||s==16||s==32||s==64
def qB (s m:Int):Bool:=wO s&&(decide (1≤m)&&decide (m≤8))
theorem Mh:∀ s:Fin 65,1≤s.val→(bits .and .i64 (s.val:Int) ((s.val:Int)-1)==0)=wO (s.val:Int):=by decide +kernel
theorem Mf {s:Int} (h:s<1∨64<s):wO s=false:=by
  unfold wO;simp
  omega
def iE (n m:Nat):List (List En):=List.replicate n (List.replicate m en0)
theorem aat:(Tryz.prog.info? 479).map (fun i=>(i.zero,i.size,i.bytes))=some (some (.agg #[.bool false,.int .i64 0,.int .u64 0,.bool false,.bool false,.bool false,.bool false,.bool false,.bool false,.bool false,.bool false,.int .i64 0,.int .u64 0,.int .i64 0,.int .u64 0]),15,64):=by kernel_rfl
theorem aau (m:Nat) (h1:1≤m) (h2:m≤8):madeCells (#[.bool false,.int .i64 0,.int .u64 0,.bool false,.bool false,.bool false,.bool false,.bool false,.bool false,.bool false,.bool false,.int .i64 0,.int .u64 0,.int .i64 0,.int .u64 0]:Array Value) (m*15)=(eG (List.replicate m en0)).toArray:=by
  rcases (show m=1∨m=2∨m=3∨m=4∨m=5∨m=6∨m=7∨m=8 by omega) with rfl|rfl|rfl|rfl|rfl|rfl|rfl|rfl <;> kernel_rfl
theorem BG {w w':World} {base:Nat} {e:TypeId} {size:Nat} {v:Value} {n:Nat} {xs:List Value} (h:w.ownsRow base e size v n xs) (hb:Below w.heap.size w w'):w'.ownsRow base e size v n xs:=by
  rcases h.2 with h2|⟨g,cap,cur,hv,hbg,hh,r⟩
  · exact ⟨h.1,.inl h2⟩
  · exact ⟨h.1,.inr ⟨g,cap,cur,hv,hbg,(hb.block g (by
      rcases Nat.lt_or_ge g w.heap.size with hlt|hge
      · exact hlt
      · rw [Array.getElem?_eq_none hge] at hh;cases hh)).trans hh,r⟩⟩
theorem IW {w wr w':World} {base:Nat} {e:TypeId} {size:Nat} {v:Value} {n:Nat} {xs:List Value} (h:wr.ownsRow base e size v n xs) (hb:Below base w wr) (hg:wr.grownBy w' v.ownBlock) (hB:base≤wr.heap.size):Below base w w':=
  hb.grown hg hB (fun g hg=>(h.lt g hg).1)
def fG (b m:Nat):Value:=.slice (some ⟨b,0,none⟩) m m
def zo (W:World) (g m k:Nat) (wr:World):Prop:=
  ∃ (Gl:List Nat) (v:Value),Gl.length=k∧Blk wr g 255 #[v]∧wr.ownsRow W.heap.size 256 1 v k (Gl.map (fG · m))∧Below W.heap.size W wr ∧
    (∀ b∈Gl,Blk wr b 479 (eG (List.replicate m en0)).toArray∧W.heap.size≤b)∧Gl.Nodup
theorem aav:(Tryz.prog.info? 256).map (fun i=>(i.zero,i.size,i.bytes))=some (some (.slice none 0 0),1,24):=by kernel_rfl
theorem aaw (s m:Nat) (W:World) (h:qB s m=true):
    Calls Tryz.prog 71 #[.int .i64 s,.int .i64 m] W fun e w'=>e=.returned (.tuple #[.pointer (some ⟨W.heap.size,0,none⟩),.int .i64 0])∧zo W W.heap.size m s w':=by
  obtain ⟨i0,hi0,hz0,hz1,hz2⟩:=info_parts aav
  have hb:1≤s∧s≤64∧1≤m∧m≤8∧wO s=true:=by
    unfold qB at h;simp only [Bool.and_eq_true,decide_eq_true_eq] at h
    have h2:=h.1
    unfold wO at h2;simp at h2
    exact ⟨by omega,by omega,by omega,by omega,h.1⟩
  obtain ⟨hs1,hs2,hm1,hm2,hps⟩:=hb
  have hmk:∀ W,(Instr.makeSlice 256 (.int .i64 (m:Int)) (.int .i64 (m:Int))).run Tryz.prog W=.ok (.slice (some ⟨W.heap.size,0,none⟩) m m) (W.alloc (.cells (eG (List.replicate m en0)).toArray 479)):=fun W=>by
    obtain ⟨i1,hi1,hy0,hy1,hy2⟩:=info_parts aat
    have h:=run_make (P:=Tryz.prog) W 256 479 i1 _ Tryz.underlying256 hi1 hy0 .i64 .i64 (m:Int) (m:Int) (by omega) (by omega) (by rw [hy2];omega) (by omega)
    rw [hy1] at h;simp only [Int.toNat_natCast] at h
    rw [h]
    congr 3
    exact aau m hm1 hm2
  have hp:=Mh ⟨s,by omega⟩ (by simp;omega)
  simp only at hp
  rw [hps] at hp;have hp2:(bits .and .i64 (s:Int) ((s:Int)-1) != 0)=false:=by rw [bne,hp];rfl
  clear hp hps h;go_enter Tryz.func71,Tryz.ntmps71
  go_wp2_with fail
  go_loopw [31] (fun i wr=>∃ k:Nat,k≤s∧i=.int .i64 k∧zo W W.heap.size m k wr) (fun i _=>s-(intOf i).toNat)
  case atStart=>exact ⟨0,by omega,rfl,[],.slice none 0 0,rfl,aI.bM _ _ _ _ rfl,World.ownsRow_nil _ _ _ _,(Below.refl _ W).alloc (Nat.le_refl _) _,fun b hb=>by simp at hb,List.nodup_nil⟩
  case round =>
    obtain ⟨k,hk,rfl,Gl,v,hgl,hX,hO,hE,hbs,hnd⟩:=hrel
    have HX:=Yh hX
    have HO:=Yh hO
    have HE:=Yh hE
    have nJ:=Yh hbs
    have wT:=Yh hnd
    have DW:=Yh hgl
    clear hX hO hE hbs hnd hgl;by_cases hks:k<s
    · go_wp2_with fail
      refine wp_region_pt (fun _ _=>True) ⟨fun _=>trivial,fun _ _=>trivial⟩ (PT.steps [0,1,2,3,5] (.fork 4 (.turn 6 (.turn 7 (.turn 8 (PT.steps [9,10] (.turn 11 .done))))) 6 (.fork 4 (.turn 7 (.turn 8 (PT.steps [9,10] (.turn 11 .done)))) 7 (.turn 4 (.turn 8 (PT.steps [9,10] (.turn 11 .done))))))) (by kernel_rfl) (by kernel_rfl) (fun _ d _ _ _ h=>by cases d <;> exact h) ?_
      unfold PT.steps
      iterate 5 (refine pt_take (v:=?_) rfl (by kernel_rfl) ?_ ?_;rotate_left;(focus (intro w' hw';try go_simp;try with_reducible rfl));simp only [Act.put,pa1,pa2,pa3])
      refine uK ?_ ?_
      focus
        have t0:=(HX.out.drew).cell 0
        simp at t0
        refine dw (R:=fun _ _=>True) rfl (by kernel_rfl) (fun K hK=>?_)
        go_simp
        refine hK _ _ ⟨trivial,?_⟩
        clear hK K
        try simp only [Act.put,pa1,pa2,pa3]
        clear t0;refine fB ?_
        refine dw (R:=fun _ _=>True) rfl (by kernel_rfl) (fun K hK=>?_)
        go_simp
        refine hK _ _ ⟨trivial,?_⟩
        clear hK K
        try simp only [Act.put,pa1,pa2,pa3]
        obtain ⟨b,hb⟩:∃ b,b=wr.heap.size:=⟨_,rfl⟩
        have hE1:=(Below.refl wr.drew.heap.size wr.drew).alloc (Nat.le_refl _) (.cells (eG (List.replicate m en0)).toArray 479)
        have hG1:Blk (wr.drew.alloc (.cells (eG (List.replicate m en0)).toArray 479)) b 479 (eG (List.replicate m en0)).toArray:=aI.bM _ _ _ _ hb
        have DX:Hid (W.heap.size≤b):=Yh (by rw [hb];exact HE.out.size)
        have DY:Hid (∀ x∈Gl,x<b):=Yh (fun x hx=>by rw [hb];exact (nJ.out x hx).1.lt)
        have hX1:=HX.out.drew.below hE1 HX.out.lt
        have iW:=BG HO.out.drew hE1
        have r9:=HE.out.drew.trans (hE1.mono HE.out.size)
        have hS1:∀ x∈Gl,Blk (wr.drew.alloc (.cells (eG (List.replicate m en0)).toArray 479)) x 479 (eG (List.replicate m en0)).toArray:=fun x hx=>(nJ.out x hx).1.drew.below hE1 (nJ.out x hx).1.lt
        refine (show dx _ _ _ _ _ _ (wr.drew.alloc (.cells (eG (List.replicate m en0)).toArray 479)) from ?_)
        rw [← hb];generalize wr.drew.alloc (.cells (eG (List.replicate m en0)).toArray 479)=w1 at *;clear hE1 hb;refine fB ?_
        refine dw (R:=fun _ _=>True) rfl (by kernel_rfl) (fun K hK=>?_)
        go_simp
        refine hK _ _ ⟨trivial,?_⟩
        clear hK K
        try simp only [Act.put,pa1,pa2,pa3]
        have hE2:=(Below.refl w1.heap.size w1).alloc (Nat.le_refl _) (.cells #[fG b m] 256)
        have hR2:Reads (w1.alloc (.cells #[fG b m] 256)) (w1.heap.size+1) 1 (some ⟨w1.heap.size,0,none⟩) 1 [fG b m]:=⟨rfl,fun _=>⟨_,rfl,Nat.lt_succ_self _,fun j u hj=>by
          match j,hj with
          | 0,hj=>exact ((aI.bM w1 256 (0,0) #[fG b m] rfl).cell 0).trans hj
          | j+1,hj=>simp at hj⟩⟩
        have hX2:=hX1.below hE2 hX1.lt
        have hO2:=BG iW hE2
        have hC2:=r9.trans (hE2.mono r9.size)
        have hG2:=hG1.below hE2 hG1.lt
        have hS2:=fun x hx=>(hS1 x hx).below hE2 (hS1 x hx).lt
        obtain ⟨g2,hg2⟩:∃ g,g=w1.heap.size:=⟨_,rfl⟩
        refine (show dx _ _ _ _ _ _ (w1.alloc (.cells #[fG b m] 256)) from ?_)
        rw [← hg2] at hR2 ⊢;have hsz2:g2+1=(w1.alloc (.cells #[fG b m] 256)).heap.size:=by rw [hg2];simp
        generalize w1.alloc (.cells #[fG b m] 256)=w2 at *;clear hE2 hX1 iW r9 hG1 hS1 hg2;refine fB ?_
        refine dw (R:=fun _ _=>True) rfl (by kernel_rfl) (fun K hK=>?_)
        refine ui _ (.tmp 37) (.tmp 40) _ rfl W.heap.size 256 i0 _ 1 24 Tryz.underlying253 hi0 hz0 hz1 hz2 rfl (by decide) v k (Gl.map (fG · m)) rfl hO2 (g2+1) (some ⟨g2,0,none⟩) 1 1 [fG b m] rfl hR2 (fun u hu=>by simp at hu;subst hu;rfl) (by unfold maxLen;omega) (by omega) hC2.size ?_
        intro v3 w3 hown hgrow _;obtain ⟨A3,c3,rfl⟩:=IV hown
        have gM:=hX2.grown hgrow (fun e=>mM hO2 hX2 (by decide) e.symm)
        have hG3:=hG2.grown hgrow (fun e=>mM hO2 hG2 (by decide) e.symm)
        have oH:=fun x hx=>(hS2 x hx).grown hgrow (fun e=>mM hO2 (hS2 x hx) (by decide) e.symm)
        have vI:=IW hO2 hC2 hgrow hC2.size
        refine hK _ _ ⟨trivial,?_⟩
        clear hK K;simp only [Act.put,pa1,pa2,pa3]
        clear hX2 hG2 hS2 hC2 hO2 hR2 hsz2 hgrow
        iterate 2 (refine pt_take (v:=?_) rfl (by kernel_rfl) ?_ ?_;rotate_left;(focus (intro w' hw';try go_simp;try with_reducible rfl));simp only [Act.put,pa1,pa2,pa3])
        have z0:=gM.cell 0
        have zl:=gM.lt
        have zf:=fun i=>gM.frozen i
        simp at z0
        refine fB ?_
        refine dw (R:=fun _ _=>True) rfl (by kernel_rfl) (fun K hK=>?_)
        go_simp
        refine hK _ _ ⟨trivial,?_⟩
        clear hK K z0 zl zf;refine uM ?_
        have nK:=(az.refl (fun x=>x=W.heap.size) w3).setCell (p:=⟨W.heap.size,0,none⟩) (.inl rfl) (.slice A3 (k+1) c3)
        have qR:=gM.ay 0 (.slice A3 (k+1) c3)
        have hO4:=nK.row hown (fun x hx h=>mM hown gM (by decide) (by rw [hx,h]))
        have vJ:=vI.setCell (p:=⟨W.heap.size,0,none⟩) (Nat.le_refl _) (.slice A3 (k+1) c3)
        have hG4:=nK.blk hG3 (fun e=>jQ gM hG3 (by decide) e.symm)
        have vK:=fun x hx=>nK.blk (oH x hx) (fun e=>jQ gM (oH x hx) (by decide) e.symm)
        simp at qR
        generalize w3.setCell ⟨W.heap.size,0,none⟩ (.slice A3 (k+1) c3)=w4 at *;have BH:Hid (zo W W.heap.size m (k+1) w4):=Yh ⟨Gl++[b],.slice A3 (k+1) c3,by rw [List.length_append,DW.out];rfl,qR,by rw [List.map_append];exact hO4,vJ,fun x hx=>by
          rcases List.mem_append.1 hx with hx|hx
          · exact ⟨vK x hx,(nJ.out x hx).2⟩
          · simp at hx;rw [hx];exact ⟨hG4,DX.out⟩,by
          rw [List.nodup_append];refine ⟨wT.out,by simp,fun x hx y hy e=>?_⟩
          simp at hy
          have:=DY.out x hx
          omega⟩
        clear qR hO4 vJ hG4 vK nK gM hG3 oH vI hown
        go_wp2_with fail;exact ⟨⟨k+1,hks,by go_num,BH.out⟩,by simp [intOf];omega⟩
      focus
        refine dw (R:=fun _ _=>True) rfl (by kernel_rfl) (fun K hK=>?_)
        go_simp
        refine hK _ _ ⟨trivial,?_⟩
        clear hK K
        try simp only [Act.put,pa1,pa2,pa3]
        obtain ⟨b,hb⟩:∃ b,b=wr.heap.size:=⟨_,rfl⟩
        have hE1:=(Below.refl wr.drew.heap.size wr.drew).alloc (Nat.le_refl _) (.cells (eG (List.replicate m en0)).toArray 479)
        have hG1:Blk (wr.drew.alloc (.cells (eG (List.replicate m en0)).toArray 479)) b 479 (eG (List.replicate m en0)).toArray:=aI.bM _ _ _ _ hb
        have DX:Hid (W.heap.size≤b):=Yh (by rw [hb];exact HE.out.size)
        have DY:Hid (∀ x∈Gl,x<b):=Yh (fun x hx=>by rw [hb];exact (nJ.out x hx).1.lt)
        have hX1:=HX.out.drew.below hE1 HX.out.lt
        have iW:=BG HO.out.drew hE1
        have r9:=HE.out.drew.trans (hE1.mono HE.out.size)
        have hS1:∀ x∈Gl,Blk (wr.drew.alloc (.cells (eG (List.replicate m en0)).toArray 479)) x 479 (eG (List.replicate m en0)).toArray:=fun x hx=>(nJ.out x hx).1.drew.below hE1 (nJ.out x hx).1.lt
        refine (show dx _ _ _ _ _ _ (wr.drew.alloc (.cells (eG (List.replicate m en0)).toArray 479)) from ?_)
        rw [← hb];generalize wr.drew.alloc (.cells (eG (List.replicate m en0)).toArray 479)=w1 at *;clear hE1 hb;refine uK ?_ ?_
        focus
          have t0:=(hX1).cell 0
          simp at t0
          refine dw (R:=fun _ _=>True) rfl (by kernel_rfl) (fun K hK=>?_)
          go_simp
          refine hK _ _ ⟨trivial,?_⟩
          clear hK K
          try simp only [Act.put,pa1,pa2,pa3]
          clear t0;refine fB ?_
          refine dw (R:=fun _ _=>True) rfl (by kernel_rfl) (fun K hK=>?_)
          go_simp
          refine hK _ _ ⟨trivial,?_⟩
          clear hK K
          try simp only [Act.put,pa1,pa2,pa3]
          have hE2:=(Below.refl w1.heap.size w1).alloc (Nat.le_refl _) (.cells #[fG b m] 256)
          have hR2:Reads (w1.alloc (.cells #[fG b m] 256)) (w1.heap.size+1) 1 (some ⟨w1.heap.size,0,none⟩) 1 [fG b m]:=⟨rfl,fun _=>⟨_,rfl,Nat.lt_succ_self _,fun j u hj=>by
            match j,hj with
            | 0,hj=>exact ((aI.bM w1 256 (0,0) #[fG b m] rfl).cell 0).trans hj
            | j+1,hj=>simp at hj⟩⟩
          have hX2:=hX1.below hE2 hX1.lt
          have hO2:=BG iW hE2
          have hC2:=r9.trans (hE2.mono r9.size)
          have hG2:=hG1.below hE2 hG1.lt
          have hS2:=fun x hx=>(hS1 x hx).below hE2 (hS1 x hx).lt
          obtain ⟨g2,hg2⟩:∃ g,g=w1.heap.size:=⟨_,rfl⟩
          refine (show dx _ _ _ _ _ _ (w1.alloc (.cells #[fG b m] 256)) from ?_)
          rw [← hg2] at hR2 ⊢;have hsz2:g2+1=(w1.alloc (.cells #[fG b m] 256)).heap.size:=by rw [hg2];simp
          generalize w1.alloc (.cells #[fG b m] 256)=w2 at *;clear hE2 hX1 iW r9 hG1 hS1 hg2;refine fB ?_
          refine dw (R:=fun _ _=>True) rfl (by kernel_rfl) (fun K hK=>?_)
          refine ui _ (.tmp 37) (.tmp 40) _ rfl W.heap.size 256 i0 _ 1 24 Tryz.underlying253 hi0 hz0 hz1 hz2 rfl (by decide) v k (Gl.map (fG · m)) rfl hO2 (g2+1) (some ⟨g2,0,none⟩) 1 1 [fG b m] rfl hR2 (fun u hu=>by simp at hu;subst hu;rfl) (by unfold maxLen;omega) (by omega) hC2.size ?_
          intro v3 w3 hown hgrow _;obtain ⟨A3,c3,rfl⟩:=IV hown
          have gM:=hX2.grown hgrow (fun e=>mM hO2 hX2 (by decide) e.symm)
          have hG3:=hG2.grown hgrow (fun e=>mM hO2 hG2 (by decide) e.symm)
          have oH:=fun x hx=>(hS2 x hx).grown hgrow (fun e=>mM hO2 (hS2 x hx) (by decide) e.symm)
          have vI:=IW hO2 hC2 hgrow hC2.size
          refine hK _ _ ⟨trivial,?_⟩
          clear hK K;simp only [Act.put,pa1,pa2,pa3]
          clear hX2 hG2 hS2 hC2 hO2 hR2 hsz2 hgrow
          iterate 2 (refine pt_take (v:=?_) rfl (by kernel_rfl) ?_ ?_;rotate_left;(focus (intro w' hw';try go_simp;try with_reducible rfl));simp only [Act.put,pa1,pa2,pa3])
          have z0:=gM.cell 0
          have zl:=gM.lt
          have zf:=fun i=>gM.frozen i
          simp at z0
          refine fB ?_
          refine dw (R:=fun _ _=>True) rfl (by kernel_rfl) (fun K hK=>?_)
          go_simp
          refine hK _ _ ⟨trivial,?_⟩
          clear hK K z0 zl zf;refine uM ?_
          have nK:=(az.refl (fun x=>x=W.heap.size) w3).setCell (p:=⟨W.heap.size,0,none⟩) (.inl rfl) (.slice A3 (k+1) c3)
          have qR:=gM.ay 0 (.slice A3 (k+1) c3)
          have hO4:=nK.row hown (fun x hx h=>mM hown gM (by decide) (by rw [hx,h]))
          have vJ:=vI.setCell (p:=⟨W.heap.size,0,none⟩) (Nat.le_refl _) (.slice A3 (k+1) c3)
          have hG4:=nK.blk hG3 (fun e=>jQ gM hG3 (by decide) e.symm)
          have vK:=fun x hx=>nK.blk (oH x hx) (fun e=>jQ gM (oH x hx) (by decide) e.symm)
          simp at qR
          generalize w3.setCell ⟨W.heap.size,0,none⟩ (.slice A3 (k+1) c3)=w4 at *;have BH:Hid (zo W W.heap.size m (k+1) w4):=Yh ⟨Gl++[b],.slice A3 (k+1) c3,by rw [List.length_append,DW.out];rfl,qR,by rw [List.map_append];exact hO4,vJ,fun x hx=>by
            rcases List.mem_append.1 hx with hx|hx
            · exact ⟨vK x hx,(nJ.out x hx).2⟩
            · simp at hx;rw [hx];exact ⟨hG4,DX.out⟩,by
            rw [List.nodup_append];refine ⟨wT.out,by simp,fun x hx y hy e=>?_⟩
            simp at hy
            have:=DY.out x hx
            omega⟩
          clear qR hO4 vJ hG4 vK nK gM hG3 oH vI hown
          go_wp2_with fail;exact ⟨⟨k+1,hks,by go_num,BH.out⟩,by simp [intOf];omega⟩
        focus
          refine dw (R:=fun _ _=>True) rfl (by kernel_rfl) (fun K hK=>?_)
          go_simp
          refine hK _ _ ⟨trivial,?_⟩
          clear hK K
          try simp only [Act.put,pa1,pa2,pa3]
          have hE2:=(Below.refl w1.heap.size w1).alloc (Nat.le_refl _) (.cells #[fG b m] 256)
          have hR2:Reads (w1.alloc (.cells #[fG b m] 256)) (w1.heap.size+1) 1 (some ⟨w1.heap.size,0,none⟩) 1 [fG b m]:=⟨rfl,fun _=>⟨_,rfl,Nat.lt_succ_self _,fun j u hj=>by
            match j,hj with
            | 0,hj=>exact ((aI.bM w1 256 (0,0) #[fG b m] rfl).cell 0).trans hj
            | j+1,hj=>simp at hj⟩⟩
          have hX2:=hX1.below hE2 hX1.lt
          have hO2:=BG iW hE2
          have hC2:=r9.trans (hE2.mono r9.size)
          have hG2:=hG1.below hE2 hG1.lt
          have hS2:=fun x hx=>(hS1 x hx).below hE2 (hS1 x hx).lt
          obtain ⟨g2,hg2⟩:∃ g,g=w1.heap.size:=⟨_,rfl⟩
          refine (show dx _ _ _ _ _ _ (w1.alloc (.cells #[fG b m] 256)) from ?_)
          rw [← hg2] at hR2 ⊢;have hsz2:g2+1=(w1.alloc (.cells #[fG b m] 256)).heap.size:=by rw [hg2];simp
          generalize w1.alloc (.cells #[fG b m] 256)=w2 at *;clear hE2 hX1 iW r9 hG1 hS1 hg2;refine fB ?_
          have t0:=(hX2).cell 0
          simp at t0
          refine dw (R:=fun _ _=>True) rfl (by kernel_rfl) (fun K hK=>?_)
          go_simp
          refine hK _ _ ⟨trivial,?_⟩
          clear hK K
          try simp only [Act.put,pa1,pa2,pa3]
          clear t0;refine fB ?_
          refine dw (R:=fun _ _=>True) rfl (by kernel_rfl) (fun K hK=>?_)
          refine ui _ (.tmp 37) (.tmp 40) _ rfl W.heap.size 256 i0 _ 1 24 Tryz.underlying253 hi0 hz0 hz1 hz2 rfl (by decide) v k (Gl.map (fG · m)) rfl hO2 (g2+1) (some ⟨g2,0,none⟩) 1 1 [fG b m] rfl hR2 (fun u hu=>by simp at hu;subst hu;rfl) (by unfold maxLen;omega) (by omega) hC2.size ?_
          intro v3 w3 hown hgrow _;obtain ⟨A3,c3,rfl⟩:=IV hown
          have gM:=hX2.grown hgrow (fun e=>mM hO2 hX2 (by decide) e.symm)
          have hG3:=hG2.grown hgrow (fun e=>mM hO2 hG2 (by decide) e.symm)
          have oH:=fun x hx=>(hS2 x hx).grown hgrow (fun e=>mM hO2 (hS2 x hx) (by decide) e.symm)
          have vI:=IW hO2 hC2 hgrow hC2.size
          refine hK _ _ ⟨trivial,?_⟩
          clear hK K;simp only [Act.put,pa1,pa2,pa3]
          clear hX2 hG2 hS2 hC2 hO2 hR2 hsz2 hgrow
          iterate 2 (refine pt_take (v:=?_) rfl (by kernel_rfl) ?_ ?_;rotate_left;(focus (intro w' hw';try go_simp;try with_reducible rfl));simp only [Act.put,pa1,pa2,pa3])
          have z0:=gM.cell 0
          have zl:=gM.lt
          have zf:=fun i=>gM.frozen i
          simp at z0
          refine fB ?_
          refine dw (R:=fun _ _=>True) rfl (by kernel_rfl) (fun K hK=>?_)
          go_simp
          refine hK _ _ ⟨trivial,?_⟩
          clear hK K z0 zl zf;refine uM ?_
          have nK:=(az.refl (fun x=>x=W.heap.size) w3).setCell (p:=⟨W.heap.size,0,none⟩) (.inl rfl) (.slice A3 (k+1) c3)
          have qR:=gM.ay 0 (.slice A3 (k+1) c3)
          have hO4:=nK.row hown (fun x hx h=>mM hown gM (by decide) (by rw [hx,h]))
          have vJ:=vI.setCell (p:=⟨W.heap.size,0,none⟩) (Nat.le_refl _) (.slice A3 (k+1) c3)
          have hG4:=nK.blk hG3 (fun e=>jQ gM hG3 (by decide) e.symm)
          have vK:=fun x hx=>nK.blk (oH x hx) (fun e=>jQ gM (oH x hx) (by decide) e.symm)
          simp at qR
          generalize w3.setCell ⟨W.heap.size,0,none⟩ (.slice A3 (k+1) c3)=w4 at *;have BH:Hid (zo W W.heap.size m (k+1) w4):=Yh ⟨Gl++[b],.slice A3 (k+1) c3,by rw [List.length_append,DW.out];rfl,qR,by rw [List.map_append];exact hO4,vJ,fun x hx=>by
            rcases List.mem_append.1 hx with hx|hx
            · exact ⟨vK x hx,(nJ.out x hx).2⟩
            · simp at hx;rw [hx];exact ⟨hG4,DX.out⟩,by
            rw [List.nodup_append];refine ⟨wT.out,by simp,fun x hx y hy e=>?_⟩
            simp at hy
            have:=DY.out x hx
            omega⟩
          clear qR hO4 vJ hG4 vK nK gM hG3 oH vI hown
          go_wp2_with fail;exact ⟨⟨k+1,hks,by go_num,BH.out⟩,by simp [intOf];omega⟩
    · obtain rfl:s=k:=by omega
      go_wp2
      go_ret2
      exact ⟨rfl,Gl,v,DW.out,HX.out,HO.out,HE.out,nJ.out,wT.out⟩
theorem aax {W w':World} {g m s:Nat} (hg:W.heap.size≤g) (hs:0<s) (h:zo W g m s w'):
    ∃ gs G,fF w' g gs G (iE s m) m∧(∀ k,pX g gs G s k→W.heap.size≤k)∧Below W.heap.size W w':=by
  obtain ⟨Gl,v,hl,hX,hO,hE,hbs,hnd⟩:=h
  have hlen:(iE s m).length=s:=by simp [iE]
  rcases hO.2 with ⟨_,h0⟩|⟨gs,cap,cur,rfl,hb,hh,hc,_,_,ht⟩
  · omega
  have hget:∀ i,i<s→(iE s m).getD i []=List.replicate m en0:=fun i hi=>by
    unfold iE;rw [List.getD_eq_getElem?_getD,List.getElem?_replicate,if_pos hi]
    rfl
  have hGi:∀ i,i<s→Gl.getD i 0∈Gl∧Gl[i]? = some (Gl.getD i 0):=fun i hi=>by
    rw [List.getD_eq_getElem?_getD,List.getElem?_eq_getElem (by omega)]
    exact ⟨List.getElem_mem _,rfl⟩
  refine ⟨gs,fun i=>Gl.getD i 0,⟨⟨cap,by rw [hlen];exact hX⟩,⟨cur,hh,fun i hi=>?_⟩,fun i hi=>?_,fun i hi=>?_,fun i j hi hj e=>?_⟩,?_,hE⟩
  · rw [hlen] at hi
    have e:cur[i]? = (Gl.map (fG · m))[i]?:=by
      rw [← ht,List.getElem?_take,if_pos (by omega),Array.getElem?_toList]
    rw [e,List.getElem?_map,(hGi i hi).2]
    rfl
  · rw [hlen] at hi
    rw [hget i hi];simp
  · rw [hlen] at hi
    rw [hget i hi];exact (hbs _ (hGi i hi).1).1
  · rw [hlen] at hi hj
    have h1:=(hGi i hi).2
    have h2:=(hGi j hj).2
    have e':Gl.getD i 0=Gl.getD j 0:=e
    rw [e'] at h1;exact (List.getElem?_inj (by omega) hnd).1 (h1.trans h2.symm)
  · rintro k (e|e|⟨i,hi,e⟩)
    · omega
    · omega
    · rw [e];exact (hbs _ (hGi i hi).1).2
theorem Pv (s m:Nat):Valid (iE s m):=by
  intro l hl e he hf;unfold iE at hl;have h1:=List.eq_of_mem_replicate hl
  rw [h1] at he;have h2:=List.eq_of_mem_replicate he
  rw [h2] at hf;exact absurd hf (by decide)
end Go.Proofs.YtnebdlchogmneaaGreatDoor
namespace Go.Proofs.YtnebdlchogmneaaGreatDoor
open Go.RowKit
theorem aay (T:List (List En)) (va:Nat) (ak:Int) (lf:Tf) (pick:Int):(nW T va ak lf pick).length=T.length:=by simp [nW]
theorem aaz (T:List (List En)) (vo:Option Nat) (ao:Option Int):(gU T vo ao).length=T.length:=by simp [gU]
theorem IX {T:List (List En)} (h:Valid T) (va:Nat) (ak:Int) (lf:Tf) (pick:Int) (hl:iM lf.aj=true):Valid (nW T va ak lf pick):=by
  intro s hs e he hf;unfold nW at hs;rcases List.mem_or_eq_of_mem_set hs with hs|rfl
  · exact h s hs e he hf
  · rcases List.mem_or_eq_of_mem_set he with he|rfl
    · rw [List.getD_eq_getElem?_getD] at he
      cases hg:T[xz T va lf]? with
      | none=>rw [hg] at he;simp at he
      | some s =>
        rw [hg] at he;exact h s (List.mem_of_getElem? hg) e he hf
    · exact hl
theorem Pw {T:List (List En)} (h:Valid T) (vo:Option Nat) (ao:Option Int):Valid (gU T vo ao):=by
  intro s hs e he hf;unfold gU at hs;obtain ⟨s0,hs0,rfl⟩:=List.mem_map.1 hs
  obtain ⟨e0,he0,rfl⟩:=List.mem_map.1 he
  unfold pE at hf ⊢
  split
  · rename_i hg;rw [if_pos hg] at hf;exact absurd hf (by decide)
  · rename_i hg;rw [if_neg hg] at hf;exact h s0 hs0 e0 he0 hf
def uF (ag:Nat) (l:Nat):Bool:=ag % 2 ^ (9*l)==0
theorem Px (ag l:Nat) (W:World) (hp:ag<18446744073709551616) (hl:l≤2):
    Calls Tryz.prog 335 #[.int .u64 (ag:Int),.int .i64 (l:Int)] W fun e w'=>e=.returned (.bool (uF ag l))∧W=w':=by
  have h0:=wQ ag 0 0 (by decide) rfl hp
  have h1:=wQ ag 9 511 (by decide) rfl hp
  have h2:=wQ ag 18 262143 (by decide) rfl hp
  have H0:=Yh h0
  have H1:=Yh h1
  have H2:=Yh h2
  clear h0 h1 h2;rcases (show l=0∨l=1∨l=2 by omega) with rfl|rfl|rfl
  · go_enter Tryz.func335,Tryz.ntmps335
    go_wp2_with fail;go_ret
    exact ⟨by first|(rw [H0.out];rfl)|(simp [uF]),rfl⟩
  · go_enter Tryz.func335,Tryz.ntmps335
    go_wp2_with fail;go_ret
    exact ⟨by rw [H1.out];rfl,rfl⟩
  · go_enter Tryz.func335,Tryz.ntmps335
    go_wp2_with fail;go_ret
    exact ⟨by rw [H2.out];rfl,rfl⟩
theorem aaA (v r w x u g a d:Bool) (au ag:Int) (l:Nat) (W:World) (hl:l≤2):
    Calls Tryz.prog 336 #[.agg #[.bool v,.bool r,.bool w,.bool x,.bool u,.bool g,.bool a,.bool d,.int .i64 au,.int .u64 ag],.int .i64 (l:Int)] W fun e w'=>e=.returned (.bool (decide (0<l) && !u && !a && !d))∧Below W.heap.size W w':=by
  rcases (show l=0∨l=1∨l=2 by omega) with rfl|rfl|rfl <;> cases u <;> cases a <;> cases d
  all_goals
    go_enter Tryz.func336,Tryz.ntmps336
    go_wp2_with fail;go_ret
    exact ⟨rfl,(Below.refl _ _).alloc (Nat.le_refl _) _⟩
theorem Py:∀ (a b:List Nat),leNat (a++b)=leNat a+256 ^ a.length*leNat b
  | [],b=>by simp [leNat]
  | x::r,b=>by
    simp only [List.cons_append,leNat,Py r b,List.length_cons,Nat.pow_succ,Nat.mul_add]
    rw [← Nat.mul_assoc,Nat.mul_comm (256 ^ r.length) 256,Nat.add_assoc]
theorem Pz (v:Nat):∀ n,leNat ((List.range n).map (byteOf v))=v % 256 ^ n
  | 0=>by simp [leNat,Nat.mod_one]
  | n+1=>by
    rw [List.range_succ,List.map_append,Py,Pz v n];simp only [List.length_map,List.length_range,List.map_cons,List.map_nil,leNat,byteOf]
    rw [Nat.mul_zero,Nat.add_zero,Nat.pow_succ,Nat.mod_mul]
theorem PD {n a:Nat} (h:dE n a 8=0):a % 8=0∧a<4096*n:=by
  obtain ⟨h1,h2⟩:=Gz h
  refine ⟨by simpa [fC,dW] using h1,by omega⟩
theorem zV {n a:Nat} (h1:a % 8=0) (h2:a<4096*n):dE n a 8=0:=by
  have h3:fC a 8=true:=by simp [fC,dW,h1]
  unfold dE;rw [if_neg (by decide),h3,if_neg (by decide),if_neg (by omega)]
def Full (S:Nat→List Nat):Prop:=∀ k,(S k).length=4096
theorem Full.empty:Full gT:=fun _=>qp
theorem Full.store {S:Nat→List Nat} (h:Full S) (n a:Nat) (s:Int) (v:Nat):Full (bH n S a s v):=fun k=>by
  unfold bH
  split
  · unfold uN bT
    split
    · exact rP _ _ _ _
    · exact h k
  · exact h k
theorem Rk {n a v:Nat} {S:Nat→List Nat} (ha:dE n a 8=0) (hv:v<18446744073709551616):aY n (bH n S a 8 v) a 8=v:=by
  obtain ⟨h1,h2⟩:=PD ha
  unfold aY bH;rw [if_pos ha,if_pos ha];unfold nP uN bT iX;rw [if_pos rfl];have e:((gV (S (a / 4096)) (a % 4096) v (8:Int).toNat).drop ((a % 4096:Nat):Int).toNat).take (8:Int).toNat=(List.range 8).map (byteOf v):=by
    rw [Int.toNat_natCast,show (8:Int).toNat=8 from rfl]
    apply OE
    · rw [List.length_take,List.length_drop,rP,List.length_map,List.length_range];omega
    · intro i hi
      rw [List.length_take,List.length_drop,rP] at hi;rw [List.getD_eq_getElem?_getD,List.getElem?_take,if_pos (by omega),← List.getD_eq_getElem?_getD,getD_drop,yJ _ _ _ _ _ (by omega),if_pos (by omega),List.getD_eq_getElem?_getD,List.getElem?_map,List.getElem?_range (by omega)]
      simp
  rw [e,Pz];exact Nat.mod_eq_of_lt hv
theorem Rl {n a b v:Nat} {S:Nat→List Nat} (hf:Full S) (hb:b % 8=0) (hne:a≠b):aY n (bH n S a 8 v) b 8=aY n S b 8:=by
  unfold aY
  split
  · rename_i hbk
    unfold bH
    split
    · rename_i ha
      obtain ⟨h1,h2⟩:=PD ha
      unfold nP uN bT
      split
      · rename_i h3
        have e:((gV (S (a / 4096)) (a % 4096) v (8:Int).toNat).drop ((b % 4096:Nat):Int).toNat).take (8:Int).toNat=((S (b / 4096)).drop ((b % 4096:Nat):Int).toNat).take (8:Int).toNat:=by
          rw [Int.toNat_natCast,show (8:Int).toNat=8 from rfl,h3]
          apply OE
          · rw [List.length_take,List.length_drop,rP,List.length_take,List.length_drop,hf]
          · intro i hi
            rw [List.length_take,List.length_drop,rP] at hi;rw [List.getD_eq_getElem?_getD,List.getElem?_take,if_pos (by omega),← List.getD_eq_getElem?_getD,getD_drop,yJ _ _ _ _ _ (by omega),if_neg (by omega),List.getD_eq_getElem?_getD (l:=List.take _ _),List.getElem?_take,if_pos (by omega),← List.getD_eq_getElem?_getD,getD_drop]
        unfold iX;rw [e]
      · rfl
    · rfl
  · rfl
theorem Ry (n a:Nat):aY n gT a 8=0:=by
  unfold aY
  split
  · unfold nP iX
    apply Cc
    intro i;rw [List.getD_eq_getElem?_getD,List.getElem?_take]
    split
    · rw [← List.getD_eq_getElem?_getD,getD_drop]
      exact xS _
    · rfl
  · rfl
def fH (x:Nat):Nat:=x / 1024 % 17592186044416
def sG (x:Nat):Bool:=x / 18014398509481984==0&&(af x 0&&(af x 1 || !af x 2))
def mZ (x:Nat):Bool:=af x 1||af x 3
def sI (x l:Nat):Bool:=decide (0<l) && !af x 4 && !af x 6 && !af x 7
def DZ:Value:=.agg #[.bool false,.bool false,.bool false,.bool false,.bool false,.bool false,.bool false,.bool false,.int .i64 0,.int .u64 0]
def kH (n:Nat) (S:Nat→List Nat) (a:Nat):Int:=if dE n a 8=0 then (if sG (aY n S a 8) then 0 else 51) else 61
def xA (n:Nat) (S:Nat→List Nat) (a:Nat):Value:=if kH n S a=0 then qd (aY n S a 8) else DZ
theorem zO (x:Nat):fH x<17592186044416:=Nat.mod_lt _ (by decide)
theorem Mem.aaB {w:World} {g n:Nat} {F:Nat→Prop} {S:Nat→List Nat} (h:Mem w g F n S) (k i:Nat):(S k).getD i 0<256:=by
  obtain ⟨mb,loc,K,h,_⟩:=h
  by_cases hk:k∈K
  · exact (h.page k hk).2.1 i
  · rw [h.zero k hk,xS];decide
theorem Mem.EH {w:World} {g n:Nat} {F:Nat→Prop} {S:Nat→List Nat} (h:Mem w g F n S) (a:Nat):aY n S a 8<18446744073709551616:=by
  unfold aY
  split
  · exact Jb _ 8 (Ja _ _ (h.aaB _))
  · decide
theorem fq:dO Tryz.prog 268 10=true:=by kernel_rfl
theorem BI (x:Nat):(#[.bool (af x 0),.bool (af x 1),.bool (af x 2),.bool (af x 3),.bool (af x 4),.bool (af x 5),.bool (af x 6),.bool (af x 7),.int .i64 ((x:Int) / 256 % 4),.int .u64 ((x:Int) / 1024 % 17592186044416)]:Array Value).all (·.oneCell')=true:=by simp [Value.oneCell']
theorem BJ:(#[.bool false,.bool false,.bool false,.bool false,.bool false,.bool false,.bool false,.bool false,.int .i64 0,.int .u64 0]:Array Value).all (·.oneCell')=true:=by simp [Value.oneCell']
theorem lX:dO Tryz.prog 418 12=true:=by kernel_rfl
theorem PE (g n a:Nat) (F:Nat→Prop) (S:Nat→List Nat) (W:World) (h:Mem W g F n S) (ha:a<18446744073709551616):
    Calls Tryz.prog 334 #[.pointer (some ⟨g,0,none⟩),.int .u64 (a:Int)] W fun e w'=>e=.returned (.tuple #[xA n S a,.int .i64 (kH n S a)])∧Below W.heap.size W w':=by
  have HA:=Yh ha
  have hX:=h.EH a
  have HE:Hid (kH n S a=if dE n a 8=0 then (if sG (aY n S a 8) then 0 else 51) else 61):=Yh rfl
  have HV:Hid (xA n S a=if kH n S a=0 then qd (aY n S a 8) else DZ):=Yh rfl
  have hw:∃ W1,W1=W.alloc (.cells #[.bool false,.bool false,.bool false,.bool false,.bool false,.bool false,.bool false,.bool false,.int .i64 0,.int .u64 0] 268)∧Blk W1 W.heap.size 268 #[.bool false,.bool false,.bool false,.bool false,.bool false,.bool false,.bool false,.bool false,.int .i64 0,.int .u64 0]∧Below W.heap.size W W1∧Mem W1 g F n S:=
    ⟨_,rfl,aI.bM _ _ _ _ rfl,(Below.refl _ _).alloc (Nat.le_refl _) _,h.below ((Below.refl _ _).alloc (Nat.le_refl _) _)⟩
  obtain ⟨W1,hW1,hz,hb1,hm⟩:=hw
  have HZ:=Yh hz
  have HB1:=Yh hb1
  have HM:=Yh hm
  clear h ha hz hb1 hm;generalize xA n S a=V at *;generalize kH n S a=E at *;go_enter Tryz.func334,Tryz.ntmps334
  go_wp2_with fail;rw [← hW1];clear hW1;refine (vW g n a 8 F S _ HM.out HA.out).mono ?_
  rintro e w ⟨rfl,rfl⟩;have HX:Hid (aY n S a 8<18446744073709551616):=Yh hX
  clear hX;generalize aY n S a 8=x at *;generalize dE n a 8=c at *;by_cases hc:c=0
  · subst hc
    rw [if_pos rfl] at HE
    go_wp2_with fail;refine (zH x _ HX.out).mono ?_
    rintro e w1 ⟨rfl,hb⟩;have HG:=Yh (HB1.out.trans (hb.mono HB1.out.size))
    have hz1:=HZ.out.below hb HZ.out.lt
    have HZ1:=Yh (hz1.alloc (.cells #[.bool (af x 0),.bool (af x 1),.bool (af x 2),.bool (af x 3),.bool (af x 4),.bool (af x 5),.bool (af x 6),.bool (af x 7),.int .i64 ((x:Int) / 256 % 4),.int .u64 ((x:Int) / 1024 % 17592186044416)] 268))
    have HB2:=Yh (HG.out.alloc HG.out.size (.cells #[.bool (af x 0),.bool (af x 1),.bool (af x 2),.bool (af x 3),.bool (af x 4),.bool (af x 5),.bool (af x 6),.bool (af x 7),.int .i64 ((x:Int) / 256 % 4),.int .u64 ((x:Int) / 1024 % 17592186044416)] 268))
    have Bb:=Yh (aI.bM w1 268 (0,0) #[.bool (af x 0),.bool (af x 1),.bool (af x 2),.bool (af x 3),.bool (af x 4),.bool (af x 5),.bool (af x 6),.bool (af x 7),.int .i64 ((x:Int) / 256 % 4),.int .u64 ((x:Int) / 1024 % 17592186044416)] rfl)
    clear hb hz1;have hgx:sG x=((x / 18014398509481984==0)&&(af x 0&&(af x 1 || !af x 2))):=rfl
    rcases Bool.eq_false_or_eq_true (x / 18014398509481984==0) with BK|BK
    · rw [BK] at hgx ⊢
      have HGX:=Yh hgx
      clear hgx BK
      go_wp2_with (first|((with_reducible refine wl_store_new 268 (.tmp 8) (.tmp 22) rfl ?_ w1 (World.heap w1).size 268 #[.bool false,.bool false,.bool false,.bool false,.bool false,.bool false,.bool false,.bool false,.int .i64 0,.int .u64 0] #[.bool (af x 0),.bool (af x 1),.bool (af x 2),.bool (af x 3),.bool (af x 4),.bool (af x 5),.bool (af x 6),.bool (af x 7),.int .i64 ((x:Int) / 256 % 4),.int .u64 ((x:Int) / 1024 % 17592186044416)] ?_ ?_ ?_ ?_ ?_ ?_ ?_ ?_);exact rfl;exact rfl;exact rfl;exact rfl;exact rfl;exact rfl;exact fq;exact BI x))
      generalize w1.alloc (.cells #[.bool (af x 0),.bool (af x 1),.bool (af x 2),.bool (af x 3),.bool (af x 4),.bool (af x 5),.bool (af x 6),.bool (af x 7),.int .i64 ((x:Int) / 256 % 4),.int .u64 ((x:Int) / 1024 % 17592186044416)] 268)=w2 at *
      go_wp2_with (first|((with_reducible refine wl_load 268 (.tmp 8) rfl ?_ w1.heap.size 0 #[.bool (af x 0),.bool (af x 1),.bool (af x 2),.bool (af x 3),.bool (af x 4),.bool (af x 5),.bool (af x 6),.bool (af x 7),.int .i64 ((x:Int) / 256 % 4),.int .u64 ((x:Int) / 1024 % 17592186044416)] ?_ Bb.out.range ?_ ?_);exact rfl;exact rfl;exact fq))
      refine (BX _ _ _ _ _ _ _ _ _ _ _).mono ?_
      rintro e w3 ⟨rfl,hb3⟩;have hgx:=HGX.out
      rw [Bool.true_and] at hgx;rw [← hgx];clear hgx;have HZ3:=Yh (HZ1.out.below hb3 HZ1.out.lt)
      have HB3:=Yh (HB2.out.trans (hb3.mono HB2.out.size))
      have HP3:=Yh (Bb.out.below hb3 Bb.out.lt)
      clear hb3;rcases Bool.eq_false_or_eq_true (sG x) with hg1|hg1
      · rw [hg1] at HE ⊢
        go_wp2_with (first|((with_reducible refine wl_load 268 (.tmp 8) rfl ?_ w1.heap.size 0 #[.bool (af x 0),.bool (af x 1),.bool (af x 2),.bool (af x 3),.bool (af x 4),.bool (af x 5),.bool (af x 6),.bool (af x 7),.int .i64 ((x:Int) / 256 % 4),.int .u64 ((x:Int) / 1024 % 17592186044416)] ?_ HP3.out.range ?_ ?_);exact rfl;exact rfl;exact fq)|((with_reducible refine wl_store 268 (.tmp 4) (.tmp 32) rfl ?_ W.heap.size 268 #[.bool false,.bool false,.bool false,.bool false,.bool false,.bool false,.bool false,.bool false,.int .i64 0,.int .u64 0] #[.bool (af x 0),.bool (af x 1),.bool (af x 2),.bool (af x 3),.bool (af x 4),.bool (af x 5),.bool (af x 6),.bool (af x 7),.int .i64 ((x:Int) / 256 % 4),.int .u64 ((x:Int) / 1024 % 17592186044416)] ?_ ?_ HZ3.out ?_ ?_ ?_ ?_);exact rfl;exact rfl;exact rfl;exact rfl;exact fq;exact BI x))
        refine bodyPost_ret (fJ (cs:=#[.bool (af x 0),.bool (af x 1),.bool (af x 2),.bool (af x 3),.bool (af x 4),.bool (af x 5),.bool (af x 6),.bool (af x 7),.int .i64 ((x:Int) / 256 % 4),.int .u64 ((x:Int) / 1024 % 17592186044416)]) (v:=.int .i64 0) rfl _ _ W.heap.size 268 rfl rfl (HZ3.out.setRow _) fq) rfl ⟨?_,below_setRow HB3.out (Nat.le_refl _) _⟩
        rw [HV.out,HE.out]
        rfl
      · rw [hg1] at HE ⊢
        go_wp2_with (first|((with_reducible refine wl_store 268 (.tmp 4) (.tmp 31) rfl ?_ W.heap.size 268 #[.bool false,.bool false,.bool false,.bool false,.bool false,.bool false,.bool false,.bool false,.int .i64 0,.int .u64 0] #[.bool false,.bool false,.bool false,.bool false,.bool false,.bool false,.bool false,.bool false,.int .i64 0,.int .u64 0] ?_ ?_ HZ3.out ?_ ?_ ?_ ?_);exact rfl;exact rfl;exact rfl;exact rfl;exact fq;exact BJ))
        refine bodyPost_ret (fJ (cs:=#[.bool false,.bool false,.bool false,.bool false,.bool false,.bool false,.bool false,.bool false,.int .i64 0,.int .u64 0]) (v:=.int .i64 51) rfl _ _ W.heap.size 268 rfl rfl (HZ3.out.setRow _) fq) rfl ⟨?_,below_setRow HB3.out (Nat.le_refl _) _⟩
        rw [HV.out,HE.out]
        rfl
    · rw [BK] at hgx ⊢
      rw [Bool.false_and] at hgx;rw [hgx] at HE;clear hgx BK
      go_wp2_with (first|((with_reducible refine wl_store 268 (.tmp 4) (.tmp 31) rfl ?_ W.heap.size 268 #[.bool false,.bool false,.bool false,.bool false,.bool false,.bool false,.bool false,.bool false,.int .i64 0,.int .u64 0] #[.bool false,.bool false,.bool false,.bool false,.bool false,.bool false,.bool false,.bool false,.int .i64 0,.int .u64 0] ?_ ?_ HZ1.out ?_ ?_ ?_ ?_);exact rfl;exact rfl;exact rfl;exact rfl;exact fq;exact BJ)|((with_reducible refine wl_store_new 268 (.tmp 8) (.tmp 22) rfl ?_ w1 (World.heap w1).size 268 #[.bool false,.bool false,.bool false,.bool false,.bool false,.bool false,.bool false,.bool false,.int .i64 0,.int .u64 0] #[.bool (af x 0),.bool (af x 1),.bool (af x 2),.bool (af x 3),.bool (af x 4),.bool (af x 5),.bool (af x 6),.bool (af x 7),.int .i64 ((x:Int) / 256 % 4),.int .u64 ((x:Int) / 1024 % 17592186044416)] ?_ ?_ ?_ ?_ ?_ ?_ ?_ ?_);exact rfl;exact rfl;exact rfl;exact rfl;exact rfl;exact rfl;exact fq;exact BI x))
      generalize w1.alloc (.cells #[.bool (af x 0),.bool (af x 1),.bool (af x 2),.bool (af x 3),.bool (af x 4),.bool (af x 5),.bool (af x 6),.bool (af x 7),.int .i64 ((x:Int) / 256 % 4),.int .u64 ((x:Int) / 1024 % 17592186044416)] 268)=w2 at *;refine bodyPost_ret (fJ (cs:=#[.bool false,.bool false,.bool false,.bool false,.bool false,.bool false,.bool false,.bool false,.int .i64 0,.int .u64 0]) (v:=.int .i64 51) rfl _ _ W.heap.size 268 rfl rfl (HZ1.out.setRow _) fq) rfl ⟨?_,below_setRow HB2.out (Nat.le_refl _) _⟩
      rw [HV.out,HE.out]
      rfl
  · rw [if_neg hc] at HE
    have hc2:(c != 0)=true:=by simpa using hc
    go_wp2_with (first|((with_reducible refine wl_store 268 (.tmp 4) (.tmp 18) rfl ?_ W.heap.size 268 #[.bool false,.bool false,.bool false,.bool false,.bool false,.bool false,.bool false,.bool false,.int .i64 0,.int .u64 0] #[.bool false,.bool false,.bool false,.bool false,.bool false,.bool false,.bool false,.bool false,.int .i64 0,.int .u64 0] ?_ ?_ HZ.out ?_ ?_ ?_ ?_);exact rfl;exact rfl;exact rfl;exact rfl;exact fq;exact BJ))
    refine bodyPost_ret (fJ (cs:=#[.bool false,.bool false,.bool false,.bool false,.bool false,.bool false,.bool false,.bool false,.int .i64 0,.int .u64 0]) (v:=.int .i64 61) rfl _ _ W.heap.size 268 rfl rfl (HZ.out.setRow _) fq) rfl ⟨?_,below_setRow HB1.out (Nat.le_refl _) _⟩
    rw [HV.out,HE.out]
    rfl
inductive Fd where
  | err (e:Int)
  | leaf (x l a:Nat)
def aQ (va t l:Nat):Nat:=(t*4096+8*dU va (l:Int)) % 18446744073709551616
def kJ (n:Nat) (S:Nat→List Nat) (va l t:Nat) (k:Fd):Fd:=
  if dE n (aQ va t l) 8=0 then
    if sG (aY n S (aQ va t l) 8) then
      if mZ (aY n S (aQ va t l) 8) then (if uF (fH (aY n S (aQ va t l) 8)) l then .leaf (aY n S (aQ va t l) 8) l (aQ va t l) else .err 51)
      else if sI (aY n S (aQ va t l) 8) l then k else .err 51
    else .err 51
  else .err 61
def findF (n:Nat) (S:Nat→List Nat) (va:Nat):Nat→Nat→Fd
  | 0,t=>kJ n S va 0 t (.err 51)
  | l+1,t=>kJ n S va (l+1) t (findF n S va l (fH (aY n S (aQ va t (l+1)) 8)))
theorem xP (va t l:Nat):aQ va t l<18446744073709551616:=Nat.mod_lt _ (by decide)
theorem D5 {n:Nat} {S:Nat→List Nat} {va L t x l a:Nat} {k:Fd} (h:kJ n S va L t k=.leaf x l a):
    (l=L∧a=aQ va t L∧dE n a 8=0∧x=aY n S a 8)∨k=.leaf x l a:=by
  unfold kJ at h
  split at h
  · rename_i h1
    split at h
    · split at h
      · split at h
        · injection h with h2 h3 h4
          subst h3;subst h4;exact .inl ⟨rfl,rfl,h1,h2.symm⟩
        · cases h
      · split at h
        · exact .inr h
        · cases h
    · cases h
  · cases h
theorem D6 {n a:Nat} (h:dE n a 8=0):a % 8=0∧a<4096*n:=by
  unfold dE at h
  split at h
  · cases h
  · split at h
    · cases h
    · rename_i h1
      split at h
      · cases h
      · rename_i h2
        refine ⟨?_,by omega⟩
        have:fC a 8=true:=by simpa using h1
        simpa [fC,dW] using this
theorem JO {n:Nat} {S:Nat→List Nat} {va x l a:Nat}:∀ {L t:Nat},findF n S va L t=.leaf x l a→l≤L∧a % 8=0∧a<4096*n∧x=aY n S a 8
  | 0,t,h=>by
    rcases D5 h with ⟨h1,_,h3,h4⟩|h1
    · exact ⟨by omega,(D6 h3).1,(D6 h3).2,h4⟩
    · cases h1
  | L+1,t,h=>by
    rcases D5 h with ⟨h1,_,h3,h4⟩|h1
    · exact ⟨by omega,(D6 h3).1,(D6 h3).2,h4⟩
    · have:=JO h1
      exact ⟨by omega,this.2⟩
def nu (l:Nat):Nat:=4096*2 ^ (9*l)
def sF (va o l:Nat):Nat:=va-va % nu l+o % nu l
theorem Rp {va o l:Nat} (hl:l≤2) (k:Nat) (hk:l≤k):dU va (k:Int)=dU (sF va o l) (k:Int):=by
  unfold dU;by_cases h:gF (k:Int)=true
  · rw [if_pos h,if_pos h]
    have h3:k=0∨k=1∨k=2:=by rcases Bu h with h|h|h <;> omega
    unfold nQ Ic sF nu;rcases (show l=0∨l=1∨l=2 by omega) with rfl|rfl|rfl <;> rcases h3 with rfl|rfl|rfl <;> simp at hk ⊢ <;> omega
  · rw [if_neg h,if_neg h]
theorem Ro {va o l:Nat} (hl:l≤2):bD (sF va o l)=bD va:=by
  have:nQ (sF va o l) 38 26=nQ va 38 26:=by
    unfold nQ sF nu;rcases (show l=0∨l=1∨l=2 by omega) with rfl|rfl|rfl <;> simp <;> omega
  unfold bD;rw [this]
end Go.Proofs.YtnebdlchogmneaaGreatDoor
