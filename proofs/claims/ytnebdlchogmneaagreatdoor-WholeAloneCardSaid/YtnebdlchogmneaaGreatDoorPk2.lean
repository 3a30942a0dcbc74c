/- Texts of the proof: WordE, WordF, Sep, Wide, PhyA, PhyB, PhyC, PhyD, PhyE, PhyF, PhyG. -/
import Derived.Test.YtnebdlchogmneaaGreatDoorPk1
import Derived.Laws.OwnMore
import Derived.Maps.OwnSet
import Derived.WalkSmall
import Derived.Deep.MidRow
import Derived.Deep.WholeRow
import Derived.Laws.CopyOwn
import Derived.Laws.AppendOwn
import Derived.Laws.MakeOwn
set_option maxRecDepth 100000
set_option maxHeartbeats 8000000
set_option linter.unusedVariables false
set_option linter.unusedSimpArgs false
namespace Go.Proofs.YtnebdlchogmneaaGreatDoor
open Go.RowKit
theorem U9 (s:Int) (h:dW s=false):gN s=18446744073709551615:=by
  have:=P7 h
  unfold gN;rw [if_neg (by omega),if_neg (by omega),if_neg (by omega)]
theorem Gr (s:Int) (w:World):
    Calls Tryz.prog 271 #[.int .i64 s] w fun e w'=>e=.returned (.int .u64 (gN s:Nat))∧w=w':=by
  rcases Bool.eq_false_or_eq_true (dW s) with h1|h1
  · rcases ug h1 with rfl|rfl|rfl|rfl
    all_goals
      have H1:=Yh h1
      clear h1;go_enter Tryz.func271,Tryz.ntmps271
      go_wp2_with (go_at_call 67;refine (uh _ _).mono ?_;rintro e w' ⟨rfl,rfl⟩;rw [H1.out])
      go_ret
      exact ⟨rfl,rfl⟩
  · have H1:=Yh h1
    clear h1;go_enter Tryz.func271,Tryz.ntmps271
    go_wp2_with (go_at_call 67;refine (uh _ _).mono ?_;rintro e w' ⟨rfl,rfl⟩;rw [H1.out])
    go_ret
    exact ⟨by rw [U9 s H1.out];rfl,rfl⟩
theorem Uu (v:Nat) (s:Int) (w:World) (hv:v<18446744073709551616):
    Calls Tryz.prog 222 #[.int .u64 v,.int .i64 s] w fun e w'=>e=.returned (.int .u64 (cutV v s:Nat))∧w=w':=by
  have HV:=Yh hv
  clear hv;go_enter Tryz.func222,Tryz.ntmps222
  go_wp2_with (go_at_call 271;refine (Gr _ _).mono ?_;rintro e w' ⟨rfl,rfl⟩)
  go_ret
  refine ⟨?_,rfl⟩
  show Ending.returned (Value.int .u64 (bits .and .u64 (v:Int) (gN s:Nat)))=_
  rw [bits_and_u64_nat _ _ HV.out (BO s),Jc v s HV.out]
theorem Uo (v:Nat) (s:Int) (w:World) (hv:v<18446744073709551616):
    Calls Tryz.prog 273 #[.int .u64 v,.int .i64 s] w fun e w'=>e=.returned (.int .u64 (vT v s:Nat))∧w=w':=by
  have e1:bits .xor .u64 ((gN s:Nat):Int) (((gN s:Nat):Int) / 2)=((mX s:Nat):Int):=by
    have:=xorShift_u64 (gN s) 2 (BO s)
    rw [Qd s] at this;exact this
  have hs:mX s<18446744073709551616:=by
    unfold mX
    repeat' split
    all_goals omega
  have e2:bits .and .u64 (v:Int) ((mX s:Nat):Int)=((v &&& mX s:Nat):Int):=bits_and_u64_nat _ _ hv hs
  have HV:=Yh hv
  have HS:=Yh hs
  clear hs;by_cases hb:v &&& mX s=0
  · have e3:(((v &&& mX s:Nat):Int) != 0)=false:=by rw [hb];rfl
    have HB:=Yh hb
    clear hb;go_enter Tryz.func273,Tryz.ntmps273
    go_wp2_with (go_at_call 271;refine (Gr _ _).mono ?_;rintro e w' ⟨rfl,rfl⟩)
    go_ret
    refine ⟨?_,rfl⟩
    show Ending.returned (Value.int .u64 (bits .and .u64 (v:Int) (gN s:Nat)))=_
    rw [bits_and_u64_nat _ _ HV.out (BO s),Qe v s HV.out HB.out]
  · have e3:(((v &&& mX s:Nat):Int) != 0)=true:=by rw [bne_iff_ne];omega
    have HB:=Yh hb
    clear hb;go_enter Tryz.func273,Tryz.ntmps273
    go_wp2_with (go_at_call 271;refine (Gr _ _).mono ?_;rintro e w' ⟨rfl,rfl⟩)
    go_ret
    refine ⟨?_,rfl⟩
    show Ending.returned (Value.int .u64 (bits .or .u64 (v:Int) (bits .xor .u64 18446744073709551615 (gN s:Nat))))=_
    have e4:bits .xor .u64 18446744073709551615 (gN s:Nat)=((18446744073709551615-gN s:Nat):Int):=by
      have h:=bits_xor_u64_nat 18446744073709551615 (gN s) (by decide) (BO s)
      rw [show (18446744073709551615 ^^^ gN s)=18446744073709551615-gN s from by unfold gN;(repeat' split);all_goals decide] at h
      exact h
    rw [e4,bits_or_u64_nat _ _ HV.out (by omega),Qf v s HV.out HB.out]
def fC (v:Nat) (s:Int):Bool:=dW s&&v % s.toNat==0
theorem wQ (v k:Nat) (m:Int) (hk:k<63) (hm:m=((2 ^ k-1:Nat):Int)) (hv:v<18446744073709551616):(bits .and .u64 (v:Int) m==0)=(v % 2 ^ k==0):=by
  have h1:2 ^ k≤2 ^ 63:=Nat.pow_le_pow_right (by decide) (by omega)
  rw [hm,bits_and_u64_nat _ _ hv (by omega),Nat.and_two_pow_sub_one_eq_mod]
  by_cases h:v % 2 ^ k=0
  · rw [h];rfl
  · have h2:((v % 2 ^ k:Nat):Int)≠0:=by omega
    rw [beq_false_of_ne h2,beq_false_of_ne h]
theorem Gt (v:Nat) (s:Int) (w:World) (hv:v<18446744073709551616):
    Calls Tryz.prog 171 #[.int .u64 v,.int .i64 s] w fun e w'=>e=.returned (.bool (fC v s))∧w=w':=by
  rcases Bool.eq_false_or_eq_true (dW s) with h1|h1
  · rcases ug h1 with rfl|rfl|rfl|rfl
    all_goals
      have H1:=Yh h1
      have HV:=Yh hv
      clear h1 hv;go_enter Tryz.func171,Tryz.ntmps171
      go_wp2_with (go_at_call 67;refine (uh _ _).mono ?_;rintro e w' ⟨rfl,rfl⟩;rw [H1.out])
      go_ret
      refine ⟨?_,rfl⟩
      unfold fC;rw [H1.out,Bool.true_and]
      first
        | exact congrArg (fun x=>Ending.returned (.bool x)) (wQ v 0 0 (by decide) rfl HV.out)
        | exact congrArg (fun x=>Ending.returned (.bool x)) (wQ v 1 1 (by decide) rfl HV.out)
        | exact congrArg (fun x=>Ending.returned (.bool x)) (wQ v 2 3 (by decide) rfl HV.out)
        | exact congrArg (fun x=>Ending.returned (.bool x)) (wQ v 3 7 (by decide) rfl HV.out)
  · have H1:=Yh h1
    clear h1;go_enter Tryz.func171,Tryz.ntmps171
    go_wp2_with (go_at_call 67;refine (uh _ _).mono ?_;rintro e w' ⟨rfl,rfl⟩;rw [H1.out])
    go_ret
    exact ⟨by simp [fC,H1.out],rfl⟩
end Go.Proofs.YtnebdlchogmneaaGreatDoor
namespace Go.Proofs.YtnebdlchogmneaaGreatDoor
open Go.RowKit
structure az (F:Nat→Prop) (w w':World):Prop where
  os:w'.os=w.os
  tape:w'.tape=w.tape
  output:w'.output=w.output
  size:w.heap.size≤w'.heap.size
  block:∀ k,k<w.heap.size→¬ F k→w'.heap[k]? = w.heap[k]?
section
variable {F G:Nat→Prop} {w w' w'':World}
theorem az.refl (F:Nat→Prop) (w:World):az F w w:=⟨rfl,rfl,rfl,Nat.le_refl _,fun _ _ _=>rfl⟩
theorem az.trans (h:az F w w') (k:az G w' w'') (hG:∀ i,G i→F i∨w.heap.size≤i):az F w w'':=
  ⟨k.os.trans h.os,k.tape.trans h.tape,k.output.trans h.output,Nat.le_trans h.size k.size,fun i hi hf =>
    (k.block i (Nat.lt_of_lt_of_le hi h.size) (fun hg=>(hG i hg).elim hf (fun hle=>by omega))).trans (h.block i hi hf)⟩
theorem az.same (h:az F w w') (k:az F w' w''):az F w w'':=h.trans k (fun _ hi=>.inl hi)
theorem az.mono (h:az F w w') (hG:∀ i,F i→G i):az G w w':=⟨h.os,h.tape,h.output,h.size,fun i hi hf=>h.block i hi (fun hx=>hf (hG i hx))⟩
theorem az.drew (h:az F w w'):az F w w'.drew:=⟨h.os,h.tape,h.output,h.size,h.block⟩
theorem az.alloc (h:az F w w') (o:Obj):az F w (w'.alloc o):=
  ⟨h.os,h.tape,h.output,Nat.le_trans h.size (by simp),fun i hi hf=>(Below.heap_alloc w' o i (Nat.lt_of_lt_of_le hi h.size)).trans (h.block i hi hf)⟩
theorem az.setCell (h:az F w w') {p:Addr} (hp:F p.block∨w.heap.size≤p.block) (u:Value):az F w (w'.setCell p u):=
  ⟨h.os,h.tape,h.output,Nat.le_trans h.size (by simp),fun i hi hf=>(Below.heap_setCell w' p u i (fun e=>by subst e;rcases hp with hp|hp;exact hf hp;omega)).trans (h.block i hi hf)⟩
theorem az.grown {row:Option Nat} (h:az F w w') (hg:w'.grownBy w'' row) (hr:∀ g,row=some g→F g∨w.heap.size≤g):az F w w'':=
  ⟨hg.os.trans h.os,hg.tape.trans h.tape,hg.output.trans h.output,Nat.le_trans h.size hg.size,fun i hi hf =>
    (hg.block i (Nat.lt_of_lt_of_le hi h.size) (fun e=>(hr i e.symm).elim hf (fun hle=>by omega))).trans (h.block i hi hf)⟩
theorem az.of_below (h:Below w.heap.size w w'):az F w w':=⟨h.os,h.tape,h.output,h.size,fun i hi _=>h.block i hi⟩
theorem az.below {B:Nat} (h:az F w w') (hF:∀ i,F i→B≤i) (hB:B≤w.heap.size):Below B w w':=
  ⟨h.os,h.tape,h.output,h.size,fun i hi=>h.block i (Nat.lt_of_lt_of_le hi hB) (fun hf=>by have:=hF i hf;omega)⟩
theorem az.L6 (h:az F w w') {row:Option Nat} (hF:∀ i,F i→some i=row):w.grownBy w' row:=
  ⟨h.os,h.tape,h.output,h.size,fun i hi hne=>h.block i hi (fun hf=>hne (hF i hf))⟩
theorem az.blk {g:Nat} {t:TypeId} {fr:Nat × Nat} {cs:Array Value} (h:az F w w') (hb:aI w g t fr cs) (hg:¬ F g):aI w' g t fr cs:=(h.block g hb.lt hg).trans hb
theorem az.row {base:Nat} {e:TypeId} {size n:Nat} {v:Value} {xs:List Value} (h:az F w w') (ho:w.ownsRow base e size v n xs) (hv:∀ g,v.ownBlock=some g→¬ F g):w'.ownsRow base e size v n xs:=by
  refine ⟨ho.1,?_⟩
  rcases ho.2 with h2|⟨g,cap,cur,hv2,hb,hh,r⟩
  · exact .inl h2
  · subst hv2
    exact .inr ⟨g,cap,cur,rfl,hb,(h.block g (ho.lt g rfl).2 (hv g rfl)).trans hh,r⟩
theorem az.map {P:Program} {k:TypeId} {R:Value→Option (DataW Unit × List MemPlace)} {b n:Nat} {D:DataW Unit} (h:az F w w') (ho:w.ownsMap P k R b n D) (hb:¬ F b):w'.ownsMap P k R b n D:=by
  have hlt:=ho.lt
  obtain ⟨es,clock,hh,r⟩:=ho
  exact ⟨es,clock,(h.block b hlt hb).trans hh,r⟩
end
theorem Gu {B:Nat} {w w1 w2:World} {F:Nat→Prop} (h:Below B w w1) (k:az F w1 w2) (hF:∀ i,F i→B≤i) (hB:B≤w1.heap.size):Below B w w2:=h.trans (k.below hF hB)
theorem aI.grown {w w':World} {g:Nat} {t:TypeId} {cs:Array Value} {fr:Nat × Nat} {row:Option Nat} (h:aI w g t fr cs) (hb:w.grownBy w' row) (hg:some g≠row):aI w' g t fr cs:=(hb.block g h.lt hg).trans h
theorem jQ {w:World} {g g':Nat} {t t':TypeId} {cs cs':Array Value} {fr fr':Nat × Nat} (h:aI w g t fr cs) (h':aI w g' t' fr' cs') (hne:t≠t'):g≠g':=by
  rintro rfl;unfold aI at h h';rw [h] at h'
  injection h' with h'
  injection h' with _ ht
  exact hne ht
theorem mM {w:World} {base size n g:Nat} {e t:TypeId} {v:Value} {xs:List Value} {cs:Array Value} {fr:Nat × Nat} (h:w.ownsRow base e size v n xs) (hb:aI w g t fr cs) (hne:e≠t):v.ownBlock≠some g:=by
  rcases h.2 with ⟨rfl,_⟩|⟨g',cap,cur,rfl,_,hh,_⟩
  · simp [Value.ownBlock]
  · intro he
    have:g'=g:=by simpa [Value.ownBlock] using he
    subst this;exact jQ (t:=e) (fr:=(0,0)) hh hb hne rfl
theorem Gv {w:World} {P:Program} {k t:TypeId} {R:Value→Option (DataW Unit × List MemPlace)} {b n g:Nat} {D:DataW Unit} {cs:Array Value} {fr:Nat × Nat} (h:w.ownsMap P k R b n D) (hb:aI w g t fr cs):b≠g:=by
  rintro rfl;obtain ⟨es,clock,hh,_⟩:=h
  unfold aI at hb;rw [hh] at hb
  cases hb
theorem Gw {w:World} {P:Program} {k:TypeId} {R:Value→Option (DataW Unit × List MemPlace)} {b n base size m:Nat} {D:DataW Unit} {e:TypeId} {v:Value} {xs:List Value} (h:w.ownsRow base e size v m xs) (hm:w.ownsMap P k R b n D):v.ownBlock≠some b:=by
  rcases h.2 with ⟨rfl,_⟩|⟨g',cap,cur,rfl,_,hh,_⟩
  · simp [Value.ownBlock]
  · intro he
    have:g'=b:=by simpa [Value.ownBlock] using he
    subst this;obtain ⟨es,clock,h2,_⟩:=hm
    rw [h2] at hh
    cases hh
def dO (P:Program) (t:TypeId) (n:Nat):Bool:=(match P.underlying t with|some d=>d.isRow|none=>false)&&decide ((P.info? t).map (·.size)=some n)
theorem uA {P:Program} {t:TypeId} {n:Nat} (h:dO P t n=true):∃ d,P.underlying t=some d∧d.isRow=true∧(P.info? t).map (·.size)=some n:=by
  unfold dO at h;simp only [Bool.and_eq_true,decide_eq_true_eq] at h
  obtain ⟨h1,h2⟩:=h
  split at h1
  · rename_i d hd
    exact ⟨d,hd,h1,h2⟩
  · cases h1
section
variable {P:Program} {ops:Array Oper} {rest:List Oper} {o:Oper} {a:Act} {w:World} {Q:Exit→Act→World→Prop}
theorem wl_load (ty:TypeId) (x:Operand) (ho:o.op=.load ty x) (hgd:Region.wanted o (yielded ops a.tmps)=true) (b off:Nat) (cs:Array Value) (hx:a.eval x=.pointer (some ⟨b,off,none⟩)) (hc:w.rangeAt b off cs.toList)
    (ht:dO P ty cs.size=true) (h:wpList P ops Q rest (a.put o.dst (.agg cs)) w):wpList P ops Q (o::rest) a w:=by
  obtain ⟨d,h1,h2,h3⟩:=uA ht
  refine BigFrame.wpList_want hgd fun K hK=>wp_load_mid ty x ho b off hx cs.toList d hc h1 h2 (by rw [h3];simp) ?_
  rw [Array.toArray_toList];exact hK _ _ h
theorem wl_store (ty:TypeId) (x y:Operand) (ho:o.op=.store ty x y) (hgd:Region.wanted o (yielded ops a.tmps)=true) (g:Nat) (t:TypeId) (old cs:Array Value) (hx:a.eval x=.pointer (some ⟨g,0,none⟩)) (hy:a.eval y=.agg cs)
    (hg:Blk w g t old) (hs:old.size=cs.size) (ht:dO P ty cs.size=true) (h1:cs.all (·.oneCell')=true)
    (h:wpList P ops Q rest (a.put o.dst undef) (w.setRow g cs)):wpList P ops Q (o::rest) a w:=by
  obtain ⟨d,_,_,h3⟩:=uA ht
  exact BigFrame.wpList_want hgd fun K hK=>wp_store_row ty x y ho g cs hx hy t old hg h3 hs h1 (hK _ _ h)
theorem wl_store_new (ty:TypeId) (x y:Operand) (ho:o.op=.store ty x y) (hgd:Region.wanted o (yielded ops a.tmps)=true) (w0:World) (g:Nat) (t:TypeId) (c cs:Array Value) (hx:a.eval x=.pointer (some ⟨g,0,none⟩)) (hy:a.eval y=.agg cs)
    (hw:w=w0.alloc (.cells c t)) (hg:g=w0.heap.size) (hs:c.size=cs.size) (ht:dO P ty cs.size=true) (h1:cs.all (·.oneCell')=true)
    (h:wpList P ops Q rest (a.put o.dst undef) (w0.alloc (.cells cs t))):wpList P ops Q (o::rest) a w:=by
  subst hw hg;refine wl_store ty x y ho hgd w0.heap.size t c cs hx hy (heap_alloc_last w0 _) hs ht h1 ?_
  rw [World.setRow_alloc_new];exact h
end
section
variable {w w':World} {g g':Nat} {t t':TypeId} {old cs cs':Array Value} {fr:Nat × Nat}
theorem aI.setRow (h:aI w g t fr old) (cs:Array Value):aI (w.setRow g cs) g t fr cs:=setRow_heap w g old cs t fr h
theorem aI.Mk (h:aI w g t fr cs) (hne:g≠g') (cs':Array Value):aI (w.setRow g' cs') g t fr cs:=(setRow_other w g' g cs' hne).trans h
theorem az.setRow {F:Nat→Prop} (h:az F w w') (hp:F g∨w.heap.size≤g) (cs:Array Value):az F w (w'.setRow g cs):=
  ⟨h.os,h.tape,h.output,Nat.le_trans h.size (by simp),fun i hi hf=>(setRow_other w' g i cs (fun e=>by subst e;rcases hp with hp|hp;exact hf hp;omega)).trans (h.block i hi hf)⟩
theorem aI.range (h:aI w g t fr cs):w.rangeAt g 0 cs.toList:=fun j v hv=>by
  rw [Nat.zero_add,h.cell]
  simpa using hv
theorem Va {F:Nat→Prop} {b o:Nat} {l:List Value} (h:w.rangeAt b o l) (hb:az F w w') (hF:¬ F b):w'.rangeAt b o l:=fun j v hv=>by
  have h1:=h j v hv
  have h2:=hb.block b (cB h1) hF
  simp only [World.cell?] at h1 ⊢
  rw [h2];exact h1
end
theorem Ml (b:Nat):∀ (vs:List Value) (o:Nat) (w:World),az (fun g=>g=b) w (w.setCells b o vs)
  | [],_,w=>az.refl _ w
  | v::r,o,w=>by
    rw [World.setCells];exact ((az.refl (fun g=>g=b) w).setCell (p:=⟨b,o,none⟩) (.inl rfl) v).same (Ml b r (o+1) _)
theorem uU {P:Program} {o:Oper} {a:Act} {w:World} (ty:TypeId) (x:Operand) (ho:o.op=.load ty x) (b off:Nat) (cs:Array Value) (hx:a.eval x=.pointer (some ⟨b,off,none⟩)) (hc:w.rangeAt b off cs.toList)
    (ht:dO P ty cs.size=true):(execOp a.eval o).run P w=.ok (.value (.agg cs)) w:=by
  obtain ⟨d,h1,h2,h3⟩:=uA ht
  unfold execOp;simp only [ho,hx,Instr.loadAt,Instr.sureAddr,Sem.run_bind,Sem.run_pure,Result.andThen_ok,run_loadVar_mid w b off ty cs.toList d hc h1 h2 (by rw [h3];simp),Array.toArray_toList]
theorem Vb {P:Program} {o:Oper} {a:Act} {w:World} {K:Act→World→Prop} {Q:Exit→Act→World→Prop} (ty:TypeId) (x y:Operand) (ho:o.op=.store ty x y) (b off:Nat) (cs:Array Value) (hx:a.eval x=.pointer (some ⟨b,off,none⟩)) (hy:a.eval y=.agg cs)
    (ht:w.there b off cs.size) (hr:dO P ty cs.size=true) (h1:cs.all (·.oneCell')=true) (h:K (a.put o.dst undef) (w.setCells b off cs.toList)):o.wp P a w K Q:=by
  obtain ⟨d,_,_,h3⟩:=uA hr
  exact wp_store_mid ty x y ho b off cs hx hy ht h3 h1 h
theorem kK {P:Program} {fn:Func} {p:Tmp} {ty:TypeId} (h:fn.results=#[.cell p ty]) (tmps:Array Value) (w:World) (g:Nat) (t:TypeId) (cs:Array Value) (hp:tmps.getD p undef=.pointer (some ⟨g,0,none⟩)) (hg:Blk w g t cs)
    (ht:dO P ty cs.size=true):(results fn tmps).run P w=.ok (.agg cs) w:=by
  obtain ⟨d,h1,h2,h3⟩:=uA ht
  have hp':tmps[p]?.getD undef=.pointer (some ⟨g,0,none⟩):=by simpa using hp
  have hl:=run_loadVar_row (P:=P) w g t ty cs (0,0) d hg h1 (by cases d <;> simp_all) h3
  simp [results,h,hp',asAddr,hl]
theorem fJ {P:Program} {fn:Func} {p q:Tmp} {ty:TypeId} (h:fn.results=#[.cell p ty,.tmp q]) (tmps:Array Value) (w:World) (g:Nat) (t:TypeId) (cs:Array Value) (v:Value) (hp:tmps.getD p undef=.pointer (some ⟨g,0,none⟩)) (hq:tmps.getD q undef=v) (hg:Blk w g t cs)
    (ht:dO P ty cs.size=true):(results fn tmps).run P w=.ok (.tuple #[.agg cs,v]) w:=by
  obtain ⟨d,h1,h2,h3⟩:=uA ht
  have hp':tmps[p]?.getD undef=.pointer (some ⟨g,0,none⟩):=by simpa using hp
  have hq':tmps[q]?.getD undef=v:=by simpa using hq
  have hl:=run_loadVar_row (P:=P) w g t ty cs (0,0) d hg h1 (by cases d <;> simp_all) h3
  simp [results,h,hp',hq',asAddr,hl]
end Go.Proofs.YtnebdlchogmneaaGreatDoor
namespace Go.Proofs.YtnebdlchogmneaaGreatDoor
open Go.RowKit Go.Maps
def CU (v:Value):Option (DataW Unit × List MemPlace):=
  match v with
  | .pointer none=>some (.lit (.bool false),[])
  | .pointer (some ⟨b,0,none⟩)=>some (.lit (.int .i64 (b:Int)),[])
  | _=>none
def qH:Option Nat→Value
  | none=>.pointer none
  | some b=>.pointer (some ⟨b,0,none⟩)
def uV:Option Nat→DataW Unit
  | none=>.lit (.bool false)
  | some b=>.lit (.int .i64 (b:Int))
theorem Mm (o:Option Nat):CU (qH o)=some (uV o,[]):=by cases o <;> rfl
theorem Vd {v:Value} {o:Option Nat} {ps:List MemPlace} (h:CU v=some (uV o,ps)):v=qH o:=by
  unfold CU at h
  split at h
  · cases o
    · rfl
    · simp [uV] at h
  · rename_i b
    cases o with
    | none=>simp [uV] at h
    | some c =>
      simp [uV] at h
      have:b=c:=by have:=h.1;omega
      subst this;rfl
  · cases h
theorem Mo:Keyed Tryz.prog 3:=int_keyed Tryz.underlying3
theorem Ve (w:World):(zeroValue 229).run Tryz.prog w=.ok (.pointer none) w:=by kernel_rfl
theorem uW {f:Int} (h:(Lit.int .i64 f).wf=true):keyOf Tryz.prog 3 (.int .i64 f)=some (.int .i64 f):=keyOf_int_mk Tryz.underlying3 h
theorem AQ (f:Int):WideAt.IsKeyLit (.int .i64 f):=by simp [WideAt.IsKeyLit]
theorem zF {k:Nat} (h:k<9223372036854775808):(Lit.int .i64 (k:Int)).wf=true:=by
  simp [Lit.wf,IntKind.min,IntKind.max,IntKind.signed,IntKind.bits]
  omega
def jS (w:World) (b:Nat) (K:List Nat) (loc:Nat→Nat):Prop:=∃ D:DataW Unit,w.ownsMap Tryz.prog 3 CU b K.length D ∧
  ∀ k:Nat,k<9223372036854775808→D.atKey (.int .i64 (k:Int)) (.lit (.bool false))=uV (if k∈K then some (loc k) else none)
theorem jS.lt {w:World} {b:Nat} {K:List Nat} {loc:Nat→Nat} (h:jS w b K loc):b<w.heap.size:=by
  obtain ⟨D,h,_⟩:=h;exact h.lt
theorem jS.keep {w w':World} {b:Nat} {K:List Nat} {loc:Nat→Nat} {row:Option Nat} (h:jS w b K loc) (hg:w.grownBy w' row) (hne:some b≠row):jS w' b K loc:=by
  obtain ⟨D,h,r⟩:=h;exact ⟨D,h.kept hg hne,r⟩
theorem jS.keeps {w w':World} {b:Nat} {K:List Nat} {loc:Nat→Nat} {F:Nat→Prop} (h:jS w b K loc) (hg:az F w w') (hne:¬ F b):jS w' b K loc:=by
  obtain ⟨D,h,r⟩:=h;exact ⟨D,hg.map h hne,r⟩
theorem jS.look {w:World} {b:Nat} {K:List Nat} {loc:Nat→Nat} (h:jS w b K loc) {k:Nat} (hk:k<9223372036854775808):
    (Instr.lookup 230 (.map (some b)) (.int .i64 (k:Int)) false).run Tryz.prog w=.ok (qH (if k∈K then some (loc k) else none)) w:=by
  obtain ⟨D,h,hD⟩:=h
  obtain ⟨v,ps,hrun,hv⟩:=h.lookup Mo Tryz.underlying230 (Ve w) (Mm none) (uW (zF hk))
  rw [show uV none=.lit (.bool false) from rfl,hD k hk] at hv;rw [hrun,Vd hv]
theorem jS.new (w:World) (loc:Nat→Nat):jS (w.alloc (.map #[] 0)) w.heap.size [] loc:=
  ⟨.map [],World.ownsMap_made _ _ _ _,fun k hk=>by simp [DataW.atKey,uV]⟩
theorem jS.put {w:World} {b:Nat} {K:List Nat} {loc:Nat→Nat} (h:jS w b K loc) {k p:Nat} (hk:k<9223372036854775808) (hm:K.length<maxLen):
    ∃ w',(Instr.mapUpdate 230 (.map (some b)) (.int .i64 (k:Int)) (qH (some p))).run Tryz.prog w=.ok () w'∧jS w' b (k::K) (fun j=>if j=k then p else loc j)∧w.grownBy w' (some b):=by
  obtain ⟨D,h,hD⟩:=h
  obtain ⟨w',hrun,h',hg⟩:=h.update Mo Tryz.underlying230 hm (uW (zF hk)) (Mm (some p))
  refine ⟨w',hrun,⟨_,h',fun j hj=>?_⟩,hg⟩
  by_cases e:j=k
  · subst e
    rw [Maps.atKey_put_same h.isMap (AQ _)];simp
  · have hne:(Lit.int .i64 (j:Int)) ≠ .int .i64 (k:Int):=by intro h;injection h with _ h;exact e (by omega)
    rw [Maps.atKey_put_other hne,hD j hj];simp [e]
section
variable {ops:Array Oper} {rest:List Oper} {o:Oper} {a:Act} {Q:Exit→Act→World→Prop}
theorem Vf (w:World) (hg:o.guard=none) (m x v:Operand) (hop:o.op=Op.mapUpdate 230 m x v) (b:Nat) (K:List Nat) (loc:Nat→Nat) (k p:Nat)
    (hm:a.eval m=.map (some b)) (hx:a.eval x=.int .i64 (k:Int)) (hv:a.eval v=.pointer (some ⟨p,0,none⟩)) (h:jS w b K loc) (hk:k<9223372036854775808) (hmax:K.length<maxLen)
    (hK:∀ w',jS w' b (k::K) (fun j=>if j=k then p else loc j)→w.grownBy w' (some b)→wpList Tryz.prog ops Q rest (a.put o.dst undef) w'):wpList Tryz.prog ops Q (o::rest) a w:=by
  refine wpList_plain hg fun K' hK'=>?_
  obtain ⟨w',hrun,r1,r2⟩:=h.put (p:=p) hk hmax
  unfold Oper.wp;simp [execOp,hop,hm,hx,hv,qH,Result.andThen] at hrun ⊢
  rw [hrun];exact hK' _ _ (hK w' r1 r2)
end
theorem Gx:∀ (n:Nat) (K:List Nat),K.Nodup→(∀ k∈K,k<n)→K.length≤n
  | 0,K,_,h=>by
    cases K with
    | nil=>simp
    | cons k K=>exact absurd (h k (by simp)) (by omega)
  | n+1,K,hn,h=>by
    by_cases hm:n∈K
    · have h1:=Gx n (K.erase n) (hn.erase n) (fun k hk=>by
        have h2:=(hn.mem_erase_iff).1 hk
        have:=h k h2.2
        omega)
      rw [List.length_erase_of_mem hm] at h1;omega
    · have h1:=Gx n K hn (fun k hk=>by
        have:=h k hk
        have:k≠n:=fun e=>hm (by rw [← e];exact hk)
        omega)
      omega
end Go.Proofs.YtnebdlchogmneaaGreatDoor
namespace Go.Proofs.YtnebdlchogmneaaGreatDoor
open Go.RowKit
def aU:List Nat:=List.replicate 4096 0
theorem xS (i:Nat):aU.getD i 0=0:=by
  unfold aU;rw [List.getD_eq_getElem?_getD,List.getElem?_replicate]
  split <;> rfl
def iV (w:World) (p:Nat) (l:List Nat):Prop:=l.length=4096∧(∀ i,l.getD i 0<256)∧(∀ i,i<4096→w.cell? ⟨p,i,none⟩=some (bv (l.getD i 0)))∧∀ i,w.frozen? ⟨p,i,none⟩=false
theorem iV.lt {w:World} {p:Nat} {l:List Nat} (h:iV w p l):p<w.heap.size:=by
  have:=cB (h.2.2.1 0 (by decide));exact this
theorem iV.block {w w':World} {p:Nat} {l:List Nat} (h:iV w p l) (hb:w'.heap[p]? = w.heap[p]?):iV w' p l:=by
  refine ⟨h.1,h.2.1,fun i hi=>?_,fun i=>?_⟩
  · rw [World.cell?_of_block (a:=⟨p,i,none⟩) hb];exact h.2.2.1 i hi
  · rw [World.frozen?_of_block (a:=⟨p,i,none⟩) hb];exact h.2.2.2 i
theorem iV.keeps {w w':World} {p:Nat} {l:List Nat} {F:Nat→Prop} (h:iV w p l) (hk:az F w w') (hF:¬ F p):iV w' p l:=h.block (hk.block p h.lt hF)
theorem iV.Mq {w:World} {p:Nat} {l:List Nat} (h:iV w p l):jI w (some ⟨p,0,none⟩) l:=⟨h.2.1,fun _=>⟨p,0,rfl,fun i hi=>by rw [Nat.zero_add];exact h.2.2.1 i (by rw [← h.1];exact hi)⟩⟩
structure pI (w:World) (g mb:Nat) (loc:Nat→Nat) (K:List Nat) (n:Nat) (S:Nat→List Nat):Prop where
  head:Blk w g 232 #[.map (some mb),.int .i64 (n:Int)]
  mp:jS w mb K loc
  page:∀ k∈K,iV w (loc k) (S k)
  zero:∀ k,k∉K→S k=aU
  nd:K.Nodup
  lt:∀ k∈K,k<n
  inj:∀ i j,i∈K→j∈K→loc i=loc j→i=j
  apart:mb≠g∧(∀ k∈K,loc k≠g∧loc k≠mb)
  n1:1≤n
  n2:n≤1048576
def wR (g mb:Nat) (loc:Nat→Nat) (K:List Nat) (b:Nat):Prop:=b=g∨b=mb∨∃ k∈K,b=loc k
section
variable {w w':World} {g mb n:Nat} {loc:Nat→Nat} {K:List Nat} {S:Nat→List Nat}
theorem pI.Gy (h:pI w g mb loc K n S):∀ b,wR g mb loc K b→b<w.heap.size:=by
  rintro b (rfl|rfl|⟨k,hk,rfl⟩)
  · exact h.head.lt
  · exact h.mp.lt
  · exact (h.page k hk).lt
theorem pI.keeps {F:Nat→Prop} (h:pI w g mb loc K n S) (hk:az F w w') (hF:∀ b,wR g mb loc K b→¬ F b):pI w' g mb loc K n S:=
  ⟨hk.blk h.head (hF _ (.inl rfl)),h.mp.keeps hk (hF _ (.inr (.inl rfl))),fun k hK=>(h.page k hK).keeps hk (hF _ (.inr (.inr ⟨k,hK,rfl⟩))),h.zero,h.nd,h.lt,h.inj,h.apart,h.n1,h.n2⟩
theorem pI.below (h:pI w g mb loc K n S) (hb:Below w.heap.size w w'):pI w' g mb loc K n S:=h.keeps (F:=fun _=>False) (az.of_below hb) (fun _ _ h=>h)
theorem pI.len (h:pI w g mb loc K n S):K.length≤1048576:=Nat.le_trans (Gx n K h.nd h.lt) h.n2
end
def Mem (w:World) (g:Nat) (F:Nat→Prop) (n:Nat) (S:Nat→List Nat):Prop:=∃ mb loc K,pI w g mb loc K n S∧(∀ b,wR g mb loc K b→F b)
theorem Mem.keeps {w w':World} {g n:Nat} {F G:Nat→Prop} {S:Nat→List Nat} (h:Mem w g F n S) (hk:az G w w') (hd:∀ b,F b→¬ G b):Mem w' g F n S:=by
  obtain ⟨mb,loc,K,h,hF⟩:=h
  exact ⟨mb,loc,K,h.keeps hk (fun b hb=>hd b (hF b hb)),hF⟩
theorem Mem.below {w w':World} {g n:Nat} {F:Nat→Prop} {S:Nat→List Nat} (h:Mem w g F n S) (hb:Below w.heap.size w w'):Mem w' g F n S:=h.keeps (G:=fun _=>False) (az.of_below hb) (fun _ _ h=>h)
theorem Mem.mono {w:World} {g n:Nat} {F G:Nat→Prop} {S:Nat→List Nat} (h:Mem w g F n S) (hG:∀ b,F b→G b):Mem w g G n S:=by
  obtain ⟨mb,loc,K,h,hF⟩:=h
  exact ⟨mb,loc,K,h,fun b hb=>hG b (hF b hb)⟩
theorem abC (n:Int) (W:World) (hn:n<1∨1048576<n):
    Calls Tryz.prog 70 #[.int .i64 n] W fun e w'=>e=.returned (.tuple #[.pointer none,.int .i64 2])∧W=w':=by
  rcases hn with hn|hn
  · go_enter Tryz.func70,Tryz.ntmps70
    go_wp2
    go_ret2
    exact ⟨rfl,rfl⟩
  · have h1:¬ n<1:=by omega
    go_enter Tryz.func70,Tryz.ntmps70;go_wp2
    go_ret2
    exact ⟨rfl,rfl⟩
def gT:Nat→List Nat:=fun _=>aU
theorem Sv (n:Nat) (W:World) (h1:1≤n) (h2:n≤1048576):
    Calls Tryz.prog 70 #[.int .i64 (n:Int)] W fun e w'=>∃ g,e=.returned (.tuple #[.pointer (some ⟨g,0,none⟩),.int .i64 0])∧Mem w' g (fun b=>W.heap.size≤b) n gT∧Below W.heap.size W w':=by
  have hmm:=@run_makeMap Tryz.prog
  have hm:=jS.new W (fun _=>0)
  have hW:Below W.heap.size W (W.alloc (.map #[] 0)):=(Below.refl _ _).alloc (Nat.le_refl _) _
  have HM:=Yh hm
  have HW:=Yh hW
  clear hm hW;go_enter Tryz.func70,Tryz.ntmps70;go_wp2
  go_ret2
  refine ⟨W.heap.size+1,rfl,⟨W.heap.size,fun _=>0,[],⟨aI.bM _ _ _ _ (by simp),?_,fun k hk=>by simp at hk,fun k _=>rfl,by simp,fun k hk=>by simp at hk,fun i j hi=>by simp at hi,⟨by omega,fun k hk=>by simp at hk⟩,h1,h2⟩,?_⟩,HW.out.alloc HW.out.size _⟩
  · exact HM.out.keep (World.grownBy_alloc _ _ none) (by simp)
  · rintro b (rfl|rfl|⟨k,hk,_⟩)
    · omega
    · exact Nat.le_refl _
    · simp at hk
def dE (n at_:Nat) (s:Int):Int:=if dW s=false then 2 else if fC at_ s=false then 60 else if n≤at_ / 4096 then 61 else 0
theorem CV (g:Nat) (v:Value) (n at_:Nat) (s:Int) (W:World) (hb:Blk W g 232 #[v,.int .i64 (n:Int)]) (hn:n≤1048576) (ha:at_<18446744073709551616):
    Calls Tryz.prog 126 #[.pointer (some ⟨g,0,none⟩),.int .u64 (at_:Int),.int .i64 s] W fun e w'=>e=.returned (.int .i64 (dE n at_ s))∧W=w':=by
  have H:Hid (dE n at_ s=if dW s=false then 2 else if fC at_ s=false then 60 else if n≤at_ / 4096 then 61 else 0):=Yh rfl
  have c1:W.cell? ⟨g,1,none⟩=some (.int .i64 (n:Int)):=hb.cell 1
  have hw:IntKind.u64.wrap (n:Int)=(n:Int):=by rw [IntKind.wrap_u64];omega
  have HA:=Yh ha
  clear hb;go_enter Tryz.func126,Tryz.ntmps126
  go_wp2_with fail;refine (uh s _).mono ?_
  rintro e w ⟨rfl,rfl⟩
  cases h1:dW s
  · rw [h1] at H
    have H1:=Yh h1
    clear h1
    go_wp2_with fail;go_ret
    exact ⟨by rw [H.out];rfl,rfl⟩
  · rw [h1] at H
    have H1:=Yh h1
    clear h1
    go_wp2_with fail;refine (Gt at_ s _ HA.out).mono ?_
    rintro e w ⟨rfl,rfl⟩
    cases h2:fC at_ s
    · rw [h2] at H
      have H2:=Yh h2
      clear h2
      go_wp2_with fail;go_ret
      exact ⟨by rw [H.out];rfl,rfl⟩
    · rw [h2] at H
      have H2:=Yh h2
      clear h2;by_cases h3:n≤at_ / 4096
      · rw [if_pos h3] at H
        have h3':(n:Int)≤(at_:Int) / 4096:=by omega
        go_wp2_with fail;go_ret
        exact ⟨by rw [H.out];rfl,rfl⟩
      · rw [if_neg h3] at H
        have h3':¬ (n:Int)≤(at_:Int) / 4096:=by omega
        go_wp2_with fail;go_ret
        exact ⟨by rw [H.out];rfl,rfl⟩
def qc (n:Nat) (f:Int):Int:=if f<0∨(n:Int)≤f then 61 else 0
theorem CW (g:Nat) (v:Value) (n:Nat) (f:Int) (W:World) (hb:Blk W g 232 #[v,.int .i64 (n:Int)]):
    Calls Tryz.prog 100 #[.pointer (some ⟨g,0,none⟩),.int .i64 f] W fun e w'=>e=.returned (.int .i64 (qc n f))∧W=w':=by
  have H:Hid (qc n f=if f<0∨(n:Int)≤f then 61 else 0):=Yh rfl
  have c1:W.cell? ⟨g,1,none⟩=some (.int .i64 (n:Int)):=hb.cell 1
  clear hb;by_cases h1:f<0
  · go_enter Tryz.func100,Tryz.ntmps100
    go_wp2_with fail;go_ret
    exact ⟨by rw [H.out,if_pos (.inl h1)];rfl,rfl⟩
  · by_cases h2:(n:Int)≤f
    · go_enter Tryz.func100,Tryz.ntmps100
      go_wp2_with fail;go_ret
      exact ⟨by rw [H.out,if_pos (.inr h2)];rfl,rfl⟩
    · go_enter Tryz.func100,Tryz.ntmps100
      go_wp2_with fail;go_ret
      exact ⟨by rw [H.out,if_neg (by omega)];rfl,rfl⟩
theorem Vg (g:Nat) (F:Nat→Prop) (n:Nat) (S:Nat→List Nat) (W:World) (h:Mem W g F n S):
    Calls Tryz.prog 128 #[.pointer (some ⟨g,0,none⟩)] W fun e w'=>e=.returned (.int .i64 (n:Int))∧W=w':=by
  obtain ⟨mb,loc,K,h,_⟩:=h
  have c1:W.cell? ⟨g,1,none⟩=some (.int .i64 (n:Int)):=h.head.cell 1
  clear h;go_enter Tryz.func128,Tryz.ntmps128
  go_wp2_with fail;go_ret
  exact ⟨rfl,rfl⟩
def jR:Array Value:=(aU.map bv).toArray
theorem Vh:Tryz.prog.built 331 []=some jR:=by kernel_rfl
theorem Vi {P:Program} {ops:Array Oper} {rest:List Oper} {o:Oper} {a:Act} {w:World} {Q:Exit→Act→World→Prop} (ty:TypeId) (ho:o.op=.build ty #[]) (hg:o.guard=none) (zs:Array Value) (hz:P.built ty []=some zs)
    (h:wpList P ops Q rest (a.put o.dst (.agg zs)) w):wpList P ops Q (o::rest) a w:=by
  have e:(P.built ty ((#[]:Array (Nat × Operand)).map fun (i,x)=>(i,a.eval x)).toList)=some zs:=by simpa using hz
  refine wpList_build hg ty #[] ho (by rw [e];rfl) ?_
  rw [e];exact h
theorem Vj {w:World} {p:Nat} (h:Blk w p 331 jR):iV w p aU:=by
  refine ⟨List.length_replicate,fun i=>by rw [xS];decide,fun i hi=>?_,fun i=>h.frozen i⟩
  rw [h.cell];unfold jR;rw [List.getElem?_toArray,List.getElem?_map,List.getD_eq_getElem?_getD,List.getElem?_eq_getElem (by rw [show aU.length=4096 from List.length_replicate];exact hi)]
  rfl
def wS (w:World) (g p k n:Nat) (F:Nat→Prop) (S:Nat→List Nat):Prop:=∃ mb loc K,pI w g mb loc K n S∧(∀ b,wR g mb loc K b→F b)∧k∈K∧loc k=p
def bT (S:Nat→List Nat) (k:Nat) (l:List Nat):Nat→List Nat:=fun j=>if j=k then l else S j
theorem wS.page {w:World} {g p k n:Nat} {F:Nat→Prop} {S:Nat→List Nat} (h:wS w g p k n F S):iV w p (S k):=by
  obtain ⟨mb,loc,K,h,_,hk,rfl⟩:=h
  exact h.page k hk
theorem wS.fp {w:World} {g p k n:Nat} {F:Nat→Prop} {S:Nat→List Nat} (h:wS w g p k n F S):F p:=by
  obtain ⟨mb,loc,K,h,hF,hk,rfl⟩:=h
  exact hF _ (.inr (.inr ⟨k,hk,rfl⟩))
theorem wS.turn {w w':World} {g p k n:Nat} {F:Nat→Prop} {S:Nat→List Nat} {l:List Nat} (h:wS w g p k n F S) (hk:az (fun b=>b=p) w w') (hp:iV w' p l):Mem w' g F n (bT S k l):=by
  obtain ⟨mb,loc,K,h,hF,hK,rfl⟩:=h
  obtain ⟨a1,a2⟩:=h.apart
  refine ⟨mb,loc,K,⟨hk.blk h.head (fun e=>(a2 k hK).1 e.symm),h.mp.keeps hk (fun e=>(a2 k hK).2 e.symm),fun j hj=>?_,fun j hj=>?_,h.nd,h.lt,h.inj,h.apart,h.n1,h.n2⟩,hF⟩
  · unfold bT
    by_cases e:j=k
    · subst e;rw [if_pos rfl];exact hp
    · rw [if_neg e]
      exact (h.page j hj).keeps hk (fun e2=>e (h.inj j k hj hK e2))
  · unfold bT
    rw [if_neg (fun e=>hj (by rw [e];exact hK))]
    exact h.zero j hj
def Vk (g k n:Nat) (F:Nat→Prop) (S:Nat→List Nat) (W:World) (e:Ending) (w':World):Prop:=
  ∃ p F',e=.returned (.pointer (some ⟨p,0,none⟩))∧wS w' g p k n F' S∧(∀ b,F' b→F b∨W.heap.size≤b)∧az F W w'
theorem Mr (g k n:Nat) (F:Nat→Prop) (S:Nat→List Nat) (W:World) (h:Mem W g F n S) (hk:k<n):
    Calls Tryz.prog 127 #[.pointer (some ⟨g,0,none⟩),.int .i64 (k:Int)] W (Vk g k n F S W):=by
  obtain ⟨mb,loc,K,h,hF⟩:=h
  have hn:=h.n2
  have c0:W.cell? ⟨g,0,none⟩=some (.map (some mb)):=h.head.cell 0
  have hl:=h.mp.look (k:=k) (by omega)
  have H:=Yh h
  have HF:=Yh hF
  by_cases hK:k∈K
  · rw [if_pos hK] at hl
    have HK:=Yh hK
    unfold qH at hl;clear h hF hK;go_enter Tryz.func127,Tryz.ntmps127
    go_wp2_with fail;go_ret
    exact ⟨loc k,F,rfl,⟨mb,loc,K,H.out,HF.out,HK.out,rfl⟩,fun b hb=>.inl hb,az.refl _ _⟩
  · rw [if_neg hK] at hl
    have HK:=Yh hK
    have hlen:=h.len
    unfold qH at hl;have hal:Below W.heap.size W (W.alloc (.cells jR 331)):=(Below.refl _ _).alloc (Nat.le_refl _) _
    have HN:Hid (Blk (W.alloc (.cells jR 331)) W.heap.size 331 jR):=Yh (aI.bM _ _ _ _ rfl)
    have HM:=Yh (h.below hal)
    have c0':(W.alloc (.cells jR 331)).cell? ⟨g,0,none⟩=some (.map (some mb)):=HM.out.head.cell 0
    clear h hF hK hal;go_enter Tryz.func127,Tryz.ntmps127
    go_wp2_with (first|((with_reducible refine Vi 331 rfl rfl jR Vh ?_))|((with_reducible refine Vf _ rfl (.tmp 19) (.tmp 20) (.tmp 21) rfl mb K loc k W.heap.size ?_ ?_ ?_ HM.out.mp (by omega) (by unfold maxLen;omega) ?_);exact rfl;exact rfl;exact rfl;intro w2 hp hg;have HP:=Yh hp;have HG:=Yh hg;clear hp hg))
    go_ret
    have hk1:az (fun b=>b=mb) (W.alloc (.cells jR 331)) w2:=⟨HG.out.os,HG.out.tape,HG.out.output,HG.out.size,fun i hi hne=>HG.out.block i hi (fun e=>hne (by injection e))⟩
    have hmb:mb<W.heap.size:=H.out.mp.lt
    have hKb:az F W w2:=((az.refl F W).alloc _).trans hk1 (fun i hi=>.inl (by rw [hi];exact HF.out _ (.inr (.inl rfl))))
    have hgl:=H.out.head.lt
    refine ⟨W.heap.size,fun b=>F b∨W.heap.size≤b,rfl,⟨mb,fun j=>if j=k then W.heap.size else loc j,k::K,⟨?_,HP.out,fun j hj=>?_,fun j hj=>?_,?_,fun j hj=>?_,fun i j hi hj e=>?_,⟨H.out.apart.1,fun j hj=>?_⟩,H.out.n1,H.out.n2⟩,?_,by simp,by simp⟩,fun b hb=>hb,hKb⟩
    · exact hk1.blk HM.out.head (fun e=>H.out.apart.1 e.symm)
    · by_cases e:j=k
      · subst e
        rw [if_pos rfl,H.out.zero j HK.out];exact (Vj HN.out).keeps hk1 (fun e=>by omega)
      · rw [if_neg e]
        have hj':j∈K:=by simpa [e] using hj
        exact (HM.out.page j hj').keeps hk1 (H.out.apart.2 j hj').2
    · simp at hj
      exact H.out.zero j hj.2
    · exact List.nodup_cons.2 ⟨HK.out,H.out.nd⟩
    · rcases List.mem_cons.1 hj with rfl|hj
      · exact hk
      · exact H.out.lt j hj
    · by_cases ei:i=k <;> by_cases ej:j=k
      · rw [ei,ej]
      · have hj':j∈K:=by simpa [ej] using hj
        have:=(H.out.page j hj').lt
        simp [ei,ej] at e;omega
      · have hi':i∈K:=by simpa [ei] using hi
        have:=(H.out.page i hi').lt
        simp [ei,ej] at e;omega
      · have hi':i∈K:=by simpa [ei] using hi
        have hj':j∈K:=by simpa [ej] using hj
        simp [ei,ej] at e
        exact H.out.inj i j hi' hj' e
    · by_cases e:j=k
      · rw [if_pos e];omega
      · rw [if_neg e]
        have hj':j∈K:=by simpa [e] using hj
        exact H.out.apart.2 j hj'
    · rintro b (rfl|rfl|⟨j,hj,rfl⟩)
      · exact .inl (HF.out _ (.inl rfl))
      · exact .inl (HF.out _ (.inr (.inl rfl)))
      · by_cases e:j=k
        · simp [e]
        · have hj':j∈K:=by simpa [e] using hj
          simp only [if_neg e]
          exact .inl (HF.out _ (.inr (.inr ⟨j,hj',rfl⟩)))
def nP (S:Nat→List Nat) (at_:Nat) (s:Int):Nat:=iX (S (at_ / 4096)) ((at_ % 4096:Nat):Int) s
def gV (l:List Nat) (p v s:Nat):List Nat:=(List.range 4096).map (fun i=>if p≤i∧i<p+s then byteOf v (i-p) else l.getD i 0)
def uN (S:Nat→List Nat) (at_:Nat) (s:Int) (v:Nat):Nat→List Nat:=bT S (at_ / 4096) (gV (S (at_ / 4096)) (at_ % 4096) v s.toNat)
theorem rP (l:List Nat) (p v s:Nat):(gV l p v s).length=4096:=by simp [gV]
theorem yJ (l:List Nat) (p v s i:Nat) (hi:i<4096):(gV l p v s).getD i 0=if p≤i∧i<p+s then byteOf v (i-p) else l.getD i 0:=by
  unfold gV;rw [List.getD_eq_getElem?_getD,List.getElem?_map,List.getElem?_range hi]
  rfl
theorem Ms (l:List Nat) (p v s i:Nat) (h:∀ i:Nat,l.getD i 0<256):(gV l p v s).getD i 0<256:=by
  rcases Nat.lt_or_ge i 4096 with hi|hi
  · rw [yJ _ _ _ _ _ hi]
    split
    · exact Jf _ _
    · exact h i
  · rw [List.getD_eq_getElem?_getD,List.getElem?_eq_none (by rw [rP];exact hi)];decide
theorem Cc:∀ l:List Nat,(∀ i:Nat,l.getD i 0=0)→leNat l=0
  | [],_=>rfl
  | x::r,h=>by
    have h0:x=0:=h 0
    have h1:=Cc r (fun i=>h (i+1))
    simp [leNat,h0,h1]
theorem Vl (S:Nat→List Nat) (at_:Nat) (s:Int) (h:S (at_ / 4096)=aU):nP S at_ s=0:=by
  unfold nP iX;rw [h];refine Cc _ (fun i=>?_)
  rw [List.getD_eq_getElem?_getD,List.getElem?_take]
  split
  · rw [List.getElem?_drop,← List.getD_eq_getElem?_getD,xS]
  · rfl
theorem Mt {at_:Nat} {s:Int} (h:fC at_ s=true):dW s=true∧qa (4096:Nat) ((at_ % 4096:Nat):Int) s=true:=by
  unfold fC at h;simp only [Bool.and_eq_true,beq_iff_eq] at h
  refine ⟨h.1,?_⟩
  unfold qa;rcases ug h.1 with rfl|rfl|rfl|rfl <;> simp at h ⊢ <;> (refine ⟨by decide,?_,?_,?_⟩ <;> omega)
theorem Gz {n at_:Nat} {s:Int} (h:dE n at_ s=0):fC at_ s=true∧at_ / 4096<n:=by
  unfold dE at h
  split at h
  · omega
  · split at h
    · omega
    · split at h
      · omega
      · rename_i h2 h3
        exact ⟨by simpa using h2,by omega⟩
theorem Vm (p:Nat) (l:List Nat) (a s:Int) (w:World) (h:iV w p l) (ht:qa (4096:Nat) a s=true):
    Calls Tryz.prog 193 #[.slice (some ⟨p,0,none⟩) 4096 4096,.int .i64 a,.int .i64 s] w fun e w'=>e=.returned (.tuple #[.int .u64 (iX l a s:Nat),.bool true])∧w=w':=by
  have hl:=h.1
  have:=Qg (some ⟨p,0,none⟩) l 4096 a s w (by rw [hl];decide) h.Mq (by rw [hl];exact ht)
  rw [hl] at this;exact this
theorem Vn (g n at_:Nat) (s:Int) (F:Nat→Prop) (S:Nat→List Nat) (W:World) (h:Mem W g F n S) (ha:at_<18446744073709551616) (hal:fC at_ s=true):
    Calls Tryz.prog 215 #[.pointer (some ⟨g,0,none⟩),.int .u64 (at_:Int),.int .i64 s] W fun e w'=>e=.returned (.int .u64 (nP S at_ s:Nat))∧W=w':=by
  obtain ⟨mb,loc,K,h,hF⟩:=h
  have c0:W.cell? ⟨g,0,none⟩=some (.map (some mb)):=h.head.cell 0
  have hl:=h.mp.look (k:=at_ / 4096) (by omega)
  have hdiv:((at_ / 4096:Nat):Int)=(at_:Int) / 4096:=by simp
  have hmod:((at_ % 4096:Nat):Int)=(at_:Int) % 4096:=by simp
  rw [hdiv] at hl;by_cases hK:at_ / 4096∈K
  · rw [if_pos hK] at hl
    have HP:=Yh (h.page _ hK)
    have HV:Hid (nP S at_ s=iX (S (at_ / 4096)) ((at_:Int) % 4096) s):=Yh (by rw [← hmod];rfl)
    have HT:=Yh (Mt hal).2
    rw [hmod] at HT;unfold qH at hl;generalize S (at_ / 4096)=l at *;generalize loc (at_ / 4096)=p at *;clear h hF hK hdiv hmod hal;go_enter Tryz.func215,Tryz.ntmps215
    go_wp2_with fail;refine (Vm p l _ s _ HP.out HT.out).mono ?_
    rintro e w ⟨rfl,rfl⟩
    go_wp2_with fail;go_ret
    exact ⟨by rw [HV.out];rfl,rfl⟩
  · rw [if_neg hK] at hl
    have HV:=Yh (Vl S at_ s (h.zero _ hK))
    unfold qH at hl;clear h hF hK hdiv hmod hal;go_enter Tryz.func215,Tryz.ntmps215
    go_wp2_with fail;go_ret
    exact ⟨by rw [HV.out];rfl,rfl⟩
def aY (n:Nat) (S:Nat→List Nat) (at_:Nat) (s:Int):Nat:=if dE n at_ s=0 then nP S at_ s else 0
theorem vW (g n at_:Nat) (s:Int) (F:Nat→Prop) (S:Nat→List Nat) (W:World) (h:Mem W g F n S) (ha:at_<18446744073709551616):
    Calls Tryz.prog 168 #[.pointer (some ⟨g,0,none⟩),.int .u64 (at_:Int),.int .i64 s] W fun e w'=>e=.returned (.tuple #[.int .u64 (aY n S at_ s:Nat),.int .i64 (dE n at_ s)])∧W=w':=by
  have HM:=Yh h
  have HA:=Yh ha
  obtain ⟨mb,loc,K,h1,_⟩:=h
  have HH:=Yh h1.head
  have HN:=Yh h1.n2
  have HR:Hid (aY n S at_ s=if dE n at_ s=0 then nP S at_ s else 0):=Yh rfl
  have aX:=Yh (fun h=>Gz (n:=n) (at_:=at_) (s:=s) h)
  clear h1 ha;by_cases h0:dE n at_ s=0
  · rw [h0]
    have HE:=Yh h0
    clear h0;go_enter Tryz.func168,Tryz.ntmps168
    go_wp2_with fail;refine (CV g _ n at_ s _ HH.out HN.out HA.out).mono ?_
    rintro e w ⟨rfl,rfl⟩;rw [HE.out]
    go_wp2_with fail;refine (Vn g n at_ s F S _ HM.out HA.out (aX.out HE.out).1).mono ?_
    rintro e w ⟨rfl,rfl⟩
    go_wp2_with fail
    go_ret2
    exact ⟨by rw [HR.out,if_pos HE.out];rfl,rfl⟩
  · have HE:=Yh h0
    have hne:(dE n at_ s != 0)=true:=by simp;exact h0
    generalize hz:dE n at_ s=z at *;have HZ:=Yh hz
    clear h0 hz;go_enter Tryz.func168,Tryz.ntmps168
    go_wp2_with fail;refine (CV g _ n at_ s _ HH.out HN.out HA.out).mono ?_
    rintro e w ⟨rfl,rfl⟩;rw [HZ.out]
    go_wp2_with fail
    go_ret2
    exact ⟨by rw [HR.out,if_neg HE.out];rfl,rfl⟩
def Eu (W:World) (g:Nat) (F:Nat→Prop) (n:Nat) (S:Nat→List Nat) (w':World):Prop:=∃ F',Mem w' g F' n S∧(∀ b,F' b→F b∨W.heap.size≤b)∧az F W w'
def bH (n:Nat) (S:Nat→List Nat) (at_:Nat) (s:Int) (v:Nat):Nat→List Nat:=if dE n at_ s=0 then uN S at_ s v else S
theorem Vo {w w':World} {p q v s:Nat} {l:List Nat} (h:iV w p l) (hp:xI w w' p q v s) (hq:q+s≤4096):iV w' p (gV l q v s)∧az (fun b=>b=p) w w':=by
  refine ⟨⟨rP _ _ _ _,fun i=>Ms _ _ _ _ _ h.2.1,fun i hi=>?_,fun i=>by rw [hp.frozen];exact h.2.2.2 i⟩,⟨hp.grown.os,hp.grown.tape,hp.grown.output,hp.grown.size,fun i hi hne=>hp.grown.block i hi (fun e=>hne (by injection e))⟩⟩
  rw [yJ _ _ _ _ _ hi];by_cases hin:q≤i∧i<q+s
  · rw [if_pos hin]
    have:=hp.new (i-q) (by omega)
    rw [show q+(i-q)=i by omega] at this
    exact this
  · rw [if_neg hin,hp.old ⟨p,i,none⟩ (by simp;omega)]
    exact h.2.2.1 i hi
theorem zN (g n at_:Nat) (s:Int) (v:Nat) (F:Nat→Prop) (S:Nat→List Nat) (W:World) (h:Mem W g F n S) (ha:at_<18446744073709551616) (hv:v<18446744073709551616):
    Calls Tryz.prog 80 #[.pointer (some ⟨g,0,none⟩),.int .u64 (at_:Int),.int .i64 s,.int .u64 (v:Int)] W fun e w'=>e=.returned (.int .i64 (dE n at_ s))∧Eu W g F n (bH n S at_ s v) w':=by
  have HM:=Yh h
  have HA:=Yh ha
  have HV:=Yh hv
  obtain ⟨mb,loc,K,h1,_⟩:=h
  have HH:=Yh h1.head
  have HN:=Yh h1.n2
  have HR:Hid (bH n S at_ s v=if dE n at_ s=0 then uN S at_ s v else S):=Yh rfl
  have aX:=Yh (fun h=>Gz (n:=n) (at_:=at_) (s:=s) h)
  clear h1 hv;by_cases h0:dE n at_ s=0
  · rw [h0]
    have HE:=Yh h0
    have HT:=Yh (Mt (aX.out h0).1)
    have hdiv:(at_:Int) / 4096=((at_ / 4096:Nat):Int):=by simp
    have hmod:(at_:Int) % 4096=((at_ % 4096:Nat):Int):=by simp
    have HD:=Yh hdiv
    have Vp:=Yh hmod
    clear h0 hdiv hmod;go_enter Tryz.func80,Tryz.ntmps80
    go_wp2_with fail;refine (CV g _ n at_ s _ HH.out HN.out HA.out).mono ?_
    rintro e w ⟨rfl,rfl⟩;rw [HE.out]
    go_wp2_with fail;rw [HD.out];refine (Mr g (at_ / 4096) n F S _ HM.out (aX.out HE.out).2).mono ?_
    rintro e w2 ⟨p,F',rfl,hO,hF',hK⟩;have HO:=Yh hO
    have AR:=Yh hF'
    have HK:=Yh hK
    clear hO hF' hK
    go_wp2_with fail;rw [Vp.out];refine (Jd p 0 4096 4096 ((at_ % 4096:Nat):Int) s v w2 HV.out (by decide) (fun i hi=>⟨_,by rw [Nat.zero_add];exact HO.out.page.2.2.1 i hi⟩) (fun i _=>by rw [Nat.zero_add];exact HO.out.page.2.2.2 i) HT.out.2).mono ?_
    rintro e w3 ⟨rfl,hp⟩;have HP:=Yh hp
    clear hp
    go_wp2_with fail;go_ret
    have hs:=Ei HT.out.2
    obtain ⟨h1,h2⟩:=Vo HO.out.page (by have:=HP.out;rw [Nat.zero_add,show (((at_ % 4096:Nat):Int)).toNat=at_ % 4096 from rfl] at this;exact this) (by have:=ug hs.1;omega)
    refine ⟨rfl,F',?_,AR.out,HK.out.trans h2 (fun i hi=>by rw [hi];exact AR.out _ HO.out.fp)⟩
    rw [HR.out,if_pos HE.out];exact HO.out.turn h2 h1
  · have HE:=Yh h0
    have hne:(dE n at_ s != 0)=true:=by simp;exact h0
    generalize hz:dE n at_ s=z at *;have HZ:=Yh hz
    clear h0 hz;go_enter Tryz.func80,Tryz.ntmps80
    go_wp2_with fail;refine (CV g _ n at_ s _ HH.out HN.out HA.out).mono ?_
    rintro e w ⟨rfl,rfl⟩;rw [HZ.out]
    go_wp2_with fail;go_ret
    refine ⟨rfl,F,?_,fun b hb=>.inl hb,az.refl _ _⟩
    rw [HR.out,if_neg HE.out];exact HM.out
theorem Vq (p:Nat) (l:List Nat) (W:World) (h:iV W p l):
    Calls Tryz.prog 101 #[.slice (some ⟨p,0,none⟩) 4096 4096] W (Er l W):=by
  obtain ⟨i0,hi0,hz0,hz1,hz2⟩:=info_parts info5
  have hl:=h.1
  have HR:=Yh (Et h.Mq)
  rw [hl] at HR;have HL:=Yh hl
  clear h hl;have hnil:=fun (W:World) (l c:Nat)=>Qz (P:=Tryz.prog) W 29 5 (some ⟨p,0,none⟩) l c Tryz.underlying29
  go_enter Tryz.func101,Tryz.ntmps101
  go_wp2_with (at_builtin;refine oL _ rfl (.tmp 5) (.tmp 6) _ rfl W.heap.size 5 i0 _ 1 1 Tryz.underlying29 hi0 hz0 hz1 hz2 rfl (by decide) _ 0 [] rfl (World.ownsRow_made W #[] 0 (Nat.le_refl _) (by unfold maxLen;omega) rfl) W.heap.size (some ⟨p,0,none⟩) 4096 4096 (l.map bv) rfl (HR.out.alloc (Nat.le_refl _) _) (BR l) (by unfold maxLen;omega) (by omega) (by simp) ?_;intro v2 w2 hown hgrow hat;have HO:=Yh hown;have HG:=Yh hgrow;clear hown hgrow hat)
  go_ret
  have ho:=HO.out
  rw [Nat.zero_add,List.nil_append] at ho;exact ⟨v2,rfl,by rw [HL.out];exact ho,((Below.refl _ W).alloc (Nat.le_refl _) _).grown HG.out (by simp) (fun k hk=>by cases hk;exact Nat.le_refl _)⟩
def Vr (l:List Nat) (W:World) (e:Ending) (w':World):Prop:=∃ v,e=.returned (.tuple #[v,.int .i64 0])∧w'.ownsRow W.heap.size 5 1 v l.length (l.map bv)∧Below W.heap.size W w'
theorem Vs:(madeCells #[Value.int IntKind.u8 0] 4096).toList=aU.map bv:=by
  rw [toList_madeCells_one];unfold aU;rw [List.map_replicate]
  rfl
theorem Co:jR.toList=aU.map bv:=by
  unfold jR;rw [List.toList_toArray]
theorem qp:aU.length=4096:=List.length_replicate
theorem KG:jR.size=4096:=by rw [← Array.length_toList,Co,List.length_map,qp]
theorem Vt (z:Array Value) (h:z=#[Value.int IntKind.u8 0]) (n:Nat) (hn:n=4096):madeCells z n=jR:=by
  subst h hn
  apply Array.toList_inj.1
  rw [Vs,Co]
theorem KF (W:World):(Instr.makeSlice 29 (.int .i64 4096) (.int .i64 4096)).run Tryz.prog W=.ok (.slice (some ⟨W.heap.size,0,none⟩) 4096 4096) (W.alloc (.cells jR 5)):=by
  obtain ⟨i0,hi0,hz0,hz1,hz2⟩:=info_parts info5
  have h:=run_make (P:=Tryz.prog) W 29 5 i0 _ Tryz.underlying29 hi0 hz0 .i64 .i64 4096 4096 (by decide) (by decide) (by rw [hz2];decide) (by decide)
  rw [hz1,Vt (Value.int IntKind.u8 0).cells rfl (Int.toNat 4096*1) (by decide),show Int.toNat 4096=4096 from rfl] at h
  exact h
theorem Sn (g n k:Nat) (F:Nat→Prop) (S:Nat→List Nat) (W:World) (h:Mem W g F n S) (hk:k<n):
    Calls Tryz.prog 58 #[.pointer (some ⟨g,0,none⟩),.int .i64 (k:Int)] W (Vr (S k) W):=by
  obtain ⟨mb,loc,K,h,hF⟩:=h
  have hn:=h.n2
  have c0:W.cell? ⟨g,0,none⟩=some (.map (some mb)):=h.head.cell 0
  have hl:=h.mp.look (k:=k) (by omega)
  have HH:=Yh h.head
  have he:qc n (k:Int)=0:=by unfold qc;rw [if_neg (by omega)]
  have HE:=Yh he
  by_cases hK:k∈K
  · rw [if_pos hK] at hl
    have HP:=Yh (h.page k hK)
    unfold qH at hl;generalize S k=l at *;generalize loc k=p at *;clear h hF hK he;go_enter Tryz.func58,Tryz.ntmps58
    go_wp2_with fail;refine (CW g _ n k _ HH.out).mono ?_
    rintro e w ⟨rfl,rfl⟩;rw [HE.out]
    go_wp2_with fail;refine (Vq p l _ HP.out).mono ?_
    rintro e w ⟨v,rfl,ho,hb⟩;have HO:=Yh ho
    have HB:=Yh hb
    clear ho hb
    go_wp2_with fail
    go_ret2
    exact ⟨v,rfl,HO.out,HB.out⟩
  · rw [if_neg hK] at hl
    have HZ:=Yh (h.zero k hK)
    unfold qH at hl;clear h hF hK he;have hmk:=KF
    go_enter Tryz.func58,Tryz.ntmps58
    go_wp2_with fail;refine (CW g _ n k _ HH.out).mono ?_
    rintro e w ⟨rfl,rfl⟩;rw [HE.out]
    go_wp2_with fail
    go_ret2
    refine ⟨_,rfl,?_,(Below.refl _ _).alloc (Nat.le_refl _) _⟩
    rw [HZ.out];rw [qp];exact ⟨by rw [List.length_map,qp],.inr ⟨W.heap.size,4096,jR,rfl,Nat.le_refl _,heap_alloc_new W _,by omega,by unfold maxLen;omega,KG,by rw [Co];exact List.take_of_length_le (by rw [List.length_map,qp];omega)⟩⟩
theorem Jw (g n:Nat) (f:Int) (u v:Value) (W:World) (hb:Blk W g 232 #[u,.int .i64 (n:Int)]) (hf:qc n f=61):
    Calls Tryz.prog 162 #[.pointer (some ⟨g,0,none⟩),.int .i64 f,v] W fun e w'=>e=.returned (.int .i64 61)∧W=w':=by
  have HH:=Yh hb
  have HE:=Yh hf
  clear hb hf;go_enter Tryz.func162,Tryz.ntmps162
  go_wp2_with fail;refine (CW g _ n f _ HH.out).mono ?_
  rintro e w ⟨rfl,rfl⟩;rw [HE.out]
  go_wp2_with fail;go_ret
  exact ⟨rfl,rfl⟩
def lN (l:List Nat):Array Value:=(l.map bv).toArray
theorem Mv (l:List Nat):(lN l).toList=l.map bv:=by unfold lN;rw [List.toList_toArray]
theorem GA {l:List Nat} (h:l.length=4096):(lN l).size=4096:=by rw [← Array.length_toList,Mv,List.length_map,h]
theorem Vu:dO Tryz.prog 331 4096=true:=by kernel_rfl
theorem Vv {l:List Nat} (h:l.length=4096):dO Tryz.prog 331 (lN l).size=true:=by rw [GA h];exact Vu
theorem Vw (l:List Nat):(lN l).all (·.oneCell')=true:=by
  unfold lN;rw [List.all_toArray,List.all_eq_true];exact BR l
def jL (l:List Nat):List Nat:=l++aU.drop l.length
theorem Vx {l:List Nat} (h:l.length≤4096):(jL l).length=4096:=by
  unfold jL;rw [List.length_append,List.length_drop,qp];omega
theorem Vy (l:List Nat):(splice (aU.map bv) 0 (l.map bv)).toArray=lN (jL l):=by
  unfold splice lN jL;rw [List.take_zero,List.nil_append,Nat.zero_add,List.length_map,List.map_append,List.map_drop]
theorem Vz {l:List Nat} (h:∀ i,l.getD i 0<256) (i:Nat):(jL l).getD i 0<256:=by
  unfold jL;rw [List.getD_eq_getElem?_getD];by_cases hi:i<l.length
  · rw [List.getElem?_append_left hi,← List.getD_eq_getElem?_getD];exact h i
  · rw [List.getElem?_append_right (by omega),List.getElem?_drop,← List.getD_eq_getElem?_getD,xS];decide
theorem VA {w:World} {p:Nat} {l:List Nat} (hl:l.length=4096) (h:∀ i,l.getD i 0<256) (hr:w.rangeAt p 0 (l.map bv)) (hf:∀ i,w.frozen? ⟨p,i,none⟩=false):iV w p l:=by
  refine ⟨hl,h,fun i hi=>?_,hf⟩
  have:=hr i (bv (l.getD i 0)) (by
    rw [List.getElem?_map,List.getD_eq_getElem?_getD,List.getElem?_eq_getElem (by rw [hl];exact hi)]
    rfl)
  rw [Nat.zero_add] at this;exact this
theorem iV.there {w:World} {p:Nat} {l:List Nat} (h:iV w p l):w.there p 0 4096:=fun j hj=>by
  rw [Nat.zero_add];exact ⟨by rw [h.2.2.1 j hj];rfl,h.2.2.2 j⟩
theorem VB:(∀ w,(zeroValue 331).run Tryz.prog w=.ok (.agg jR) w)∧(Tryz.prog.info? 331).map (·.size)=some 4096:=zero_of_info (by kernel_rfl)
theorem VC:(Tryz.prog.info? 5).map (·.size)=some 1:=by kernel_rfl
theorem Jz (g n k:Nat) (A:Option Addr) (l:List Nat) (c:Nat) (F:Nat→Prop) (S:Nat→List Nat) (W:World) (h:Mem W g F n S) (hk:k<n) (hA:jI W A l) (hl:l.length≤4096):
    Calls Tryz.prog 162 #[.pointer (some ⟨g,0,none⟩),.int .i64 (k:Int),.slice A l.length c] W fun e w'=>e=.returned (.int .i64 0)∧Eu W g F n (bT S k (jL l)) w':=by
  obtain ⟨mb,loc,K,h,hF⟩:=h
  have HM:=Yh h
  have HF:=Yh hF
  have HH:=Yh h.head
  have HA:=Yh hA
  have HR:=Yh (Et hA)
  have HE:Hid (qc n (k:Int)=0):=Yh (by unfold qc;rw [if_neg (by omega)])
  have HK:=Yh hk
  have hz:=VB.1
  have hl':¬ (4096:Int)<(l.length:Int):=by omega
  have HL:=Yh hl
  clear h hF hA hk hl;go_enter Tryz.func162,Tryz.ntmps162
  go_wp2_with fail;refine (CW g _ n k _ HH.out).mono ?_
  rintro e w ⟨rfl,rfl⟩;rw [HE.out];obtain ⟨Z,hZ⟩:∃ Z,aU.map bv=Z:=⟨_,rfl⟩
  have Mw:Z.length=4096:=by rw [← hZ,List.length_map,qp]
  have HZ:=Yh hZ
  clear hZ;have hn:(l.map bv).length=Nat.min l.length 4096:=by rw [List.length_map];exact (Nat.min_eq_left HL.out).symm
  have hfit:0+(l.map bv).length≤Z.length:=by rw [List.length_map,Mw];have:=HL.out;omega
  have hpos:0<(l.map bv).length→∃ ad,A=some ad∧∀ j v,(l.map bv)[j]? = some v→(W.alloc (.cells jR 331)).cell? (ad.add j)=some v:=fun h0=>by
    obtain ⟨ad,e,_,hc⟩:=(HR.out.alloc (Nat.le_refl _) (.cells jR 331)).2 (by simpa using h0)
    exact ⟨ad,e,hc⟩
  have HN:=Yh hn
  have Gn:=Yh hfit
  have VD:=Yh hpos
  clear hn hfit hpos Mw
  go_wp2_with ((with_reducible refine wpList_copy_splice rfl (.tmp 18) (.tmp 19) _ _ rfl 5 Tryz.underlying29 VC _ _ 4096 4096 l.length c ?_ ?_ W.heap.size 0 Z 331 ?_ (l.map bv) HN.out (fun h0=>⟨rfl,VD.out h0⟩) Gn.out ?_ W.heap.size W ?_ ?_ ?_);exact rfl;exact rfl;rw [← HZ.out];exact heap_alloc_new W _;exact BR l;exact (Below.refl _ _).alloc (Nat.le_refl _) _;exact Nat.le_refl _;intro w2 hw2 hb2;rw [← HZ.out,Vy] at hw2;have HW2:=Yh hw2;have HB2:=Yh hb2;clear hw2 hb2)
  have hM2:=HM.out.below HB2.out
  have ko:=Yh (hM2.keeps (F:=fun _=>False) (az.refl _ _).drew (fun _ _ h=>h))
  have hlen:=Vx HL.out
  have hblk:Blk w2.drew W.heap.size 331 (lN (jL l)):=HW2.out.out
  have hrg:=aI.range hblk
  have hrow:=Vv hlen
  have VE:=Yh hrg
  have hne:¬ wR g mb loc K W.heap.size:=fun h2=>Nat.lt_irrefl _ (HM.out.Gy _ h2)
  clear hM2 hblk hrg;refine wp_region_plan_by (fun u u'=>u.rangeAt W.heap.size 0 (lN (jL l)).toList→u'.rangeAt W.heap.size 0 (lN (jL l)).toList) ⟨fun _ h=>h,fun h k r=>k (h r)⟩ [(0,false),(1,false),(3,false),(2,true),(4,false),(5,true)] (by kernel_rfl) (by kernel_rfl) (fun _ d _ _ _ h=>by cases d <;> exact h) ?_
  iterate 2 (refine plan_take (v:=?_) rfl (by kernel_rfl) ?_ ?_;rotate_left;(focus (intro w' hw';try go_simp;try with_reducible rfl));simp only [Act.put,pa1,pa2,pa3])
  refine plan_take rfl (by kernel_rfl) (fun w' h'=>uU 331 (.tmp 8) rfl W.heap.size 0 (lN (jL l)) rfl (h' VE.out) hrow) ?_
  simp only [Act.put,pa1,pa2,pa3]
  refine plan_call rfl (by kernel_rfl) (by go_simp; exact ⟨rfl, rfl⟩) ?_
  refine (Mr g k n (wR g mb loc K) S _ ⟨mb,loc,K,ko.out,fun _ h=>h⟩ HK.out).mono ?_
  rintro e w3 ⟨p,F',rfl,hO,hF',hK⟩;have HO:=Yh hO
  have AR:=Yh hF'
  have HKK:=Yh hK
  have hT:=Yh hO.page.there
  clear hO hF';refine ⟨_,rfl,fun r=>Va r hK hne,?_⟩
  clear hK;simp only [Act.put,pa1,pa2,pa3]
  iterate 1 (refine plan_take (v:=?_) rfl (by kernel_rfl) ?_ ?_;rotate_left;(focus (intro w' hw';try go_simp;try with_reducible rfl));simp only [Act.put,pa1,pa2,pa3])
  refine nL rfl (by kernel_rfl) (by kernel_rfl) (fun K' hK'=>?_)
  refine Vb 331 (.tmp 25) (.tmp 24) rfl p 0 (lN (jL l)) rfl rfl (by rw [GA hlen];exact hT.out) hrow (Vw _) ?_
  refine hK' _ _ ?_
  clear hK' K';refine aG ?_
  simp only [Act.put,pa1,pa2,pa3]
  go_wp2_with fail;go_ret
  have hk1:=Ml p (lN (jL l)).toList 0 w3
  have jr:iV (w3.setCells p 0 (lN (jL l)).toList) p (jL l):=by
    refine VA hlen (Vz HA.out.1) ?_ (fun i=>?_)
    · have:=World.rangeAt_setCells_same w3 p 0 (lN (jL l)).toList (by rw [Array.length_toList,GA hlen];exact hT.out)
      rw [Mv] at this ⊢;exact this
    · rw [World.frozen?_setCells]
      exact HO.out.page.2.2.2 i
  have hsz:W.heap.size≤w2.heap.size:=HB2.out.size
  refine ⟨rfl,fun b=>F' b∨F b,(HO.out.turn hk1 jr).mono (fun b h=>.inl h),?_,?_⟩
  · rintro b (h|h)
    · rcases AR.out b h with h|h
      · exact .inl (HF.out b h)
      · exact .inr (Nat.le_trans hsz h)
    · exact .inl h
  · have h1:az F W w2.drew:=(az.of_below HB2.out).drew
    have h2:=h1.trans HKK.out (fun b h=>.inl (HF.out b h))
    refine h2.trans hk1 (fun b hb=>?_)
    subst hb;rcases AR.out _ HO.out.fp with h|h
    · exact .inl (HF.out _ h)
    · exact .inr (Nat.le_trans hsz h)
end Go.Proofs.YtnebdlchogmneaaGreatDoor
