/- Texts of the proof: PhyH, PhyQ, FrA, FrB, Objs, ObjB, PteA, PteB, PteC, PteD, PteE, PteG, PteH. -/
import Derived.Test.YtnebdlchogmneaaGreatDoorPk2
import Derived.IntWalk
import Derived.Test.YtnebdlchogmneaaGreatDoorPk1
import Derived.Laws.BitsAllLaws
import Derived.Laws.Bits64b
import Derived.BigRegion
set_option maxRecDepth 100000
set_option maxHeartbeats 8000000
set_option linter.unusedVariables false
set_option linter.unusedSimpArgs false
namespace Go.Proofs.YtnebdlchogmneaaGreatDoor
open Go.RowKit
theorem Mem.tight {w:World} {g n:Nat} {F:Nat→Prop} {S:Nat→List Nat} (h:Mem w g F n S):Mem w g (fun b=>F b∧b<w.heap.size) n S:=by
  obtain ⟨mb,loc,K,h,hF⟩:=h
  exact ⟨mb,loc,K,h,fun b hb=>⟨hF b hb,h.Gy b hb⟩⟩
theorem OE {l m:List Nat} (h:l.length=m.length) (he:∀ i,i<l.length→l.getD i 0=m.getD i 0):l=m:=by
  apply List.ext_getElem h
  intro i h1 h2;have:=he i h1
  rwa [List.getD_eq_getElem?_getD,List.getD_eq_getElem?_getD,List.getElem?_eq_getElem h1,List.getElem?_eq_getElem h2] at this
end Go.Proofs.YtnebdlchogmneaaGreatDoor
namespace Go.Proofs.YtnebdlchogmneaaGreatDoor
open Go.RowKit Go.Maps
def iL (w:World) (b:Nat) (L:List Int):Prop:=L.Nodup∧∃ D:DataW Unit,w.ownsMap Tryz.prog 3 (plainElem Tryz.prog 4) b L.length D∧Maps.size D=L.length ∧
  ∀ f,(Lit.int .i64 f).wf=true→D.atKey (.int .i64 f) (.lit (.bool false))=.lit (.bool (decide (f∈L)))∧Maps.has D (.int .i64 f)=decide (f∈L)
theorem law:Keyed Tryz.prog 3:=int_keyed Tryz.underlying3
theorem Zl (w:World):(zeroValue 4).run Tryz.prog w=.ok (.bool false) w:=by kernel_rfl
theorem OG (x:Bool):plainElem (H:=Unit) Tryz.prog 4 (.bool x)=some (.lit (.bool x),[]):=plainElem_bool Tryz.underlying4 x
theorem Zm {v:Value} {y:Bool} {ps:List MemPlace} (h:plainElem (H:=Unit) Tryz.prog 4 v=some (.lit (.bool y),ps)):v=.bool y:=by
  unfold plainElem at h
  cases v <;> simp_all [Tryz.underlying4]
theorem iL.keep {w w':World} {b:Nat} {L:List Int} {row:Option Nat} (h:iL w b L) (hg:w.grownBy w' row) (hne:some b≠row):iL w' b L:=by
  obtain ⟨hn,D,h,r⟩:=h;exact ⟨hn,D,h.kept hg hne,r⟩
theorem iL.keeps {w w':World} {b:Nat} {L:List Int} {F:Nat→Prop} (h:iL w b L) (hg:az F w w') (hne:¬ F b):iL w' b L:=by
  obtain ⟨hn,D,h,r⟩:=h;exact ⟨hn,D,hg.map h hne,r⟩
theorem iL.look {w:World} {b:Nat} {L:List Int} (h:iL w b L) {f:Int} (hf:(Lit.int .i64 f).wf=true):
    (Instr.lookup 259 (.map (some b)) (.int .i64 f) false).run Tryz.prog w=.ok (.bool (decide (f∈L))) w:=by
  obtain ⟨_,D,h,_,hD⟩:=h
  obtain ⟨v,ps,hrun,hv⟩:=h.lookup law Tryz.underlying259 (Zl w) (OG false) (uW hf)
  rw [(hD f hf).1] at hv;rw [hrun,Zm hv]
theorem OH {w:World} {b n:Nat} {D:DataW Unit} (h:w.ownsMap Tryz.prog 3 (plainElem Tryz.prog 4) b n D):w.ownsMap Tryz.prog 3 (plainElem Tryz.prog 4) b (Maps.size D) D:=by
  obtain ⟨es,clock,hb,F,hs,rfl⟩:=h
  exact ⟨es,clock,hb,F,by simp [Maps.size,length_sorted],rfl⟩
theorem iL.new (w:World):iL (w.alloc (.map #[] 0)) w.heap.size []:=
  ⟨by simp,.map [],World.ownsMap_made _ _ _ _,rfl,fun f _=>⟨by simp [DataW.atKey],by simp [Maps.has]⟩⟩
theorem iL.put {w:World} {b:Nat} {L:List Int} (h:iL w b L) {f:Int} (hf:(Lit.int .i64 f).wf=true) (hL:f∉L) (hm:L.length<maxLen):
    ∃ w',(Instr.mapUpdate 259 (.map (some b)) (.int .i64 f) (.bool true)).run Tryz.prog w=.ok () w'∧iL w' b (f::L)∧w.grownBy w' (some b):=by
  obtain ⟨hn,D,h,hs,hD⟩:=h
  obtain ⟨w',hrun,h',hg⟩:=h.update law Tryz.underlying259 hm (uW hf) (OG true)
  have hsz:Maps.size (D.put (.int .i64 f) (.lit (.bool true)))=(f::L).length:=by
    rw [Maps.size_put (h.tidy law),(hD f hf).2,hs];simp [hL]
  refine ⟨w',hrun,⟨List.nodup_cons.2 ⟨hL,hn⟩,_,by rw [← hsz];exact OH h',hsz,fun g hg'=>?_⟩,hg⟩
  by_cases e:g=f
  · subst e
    rw [Maps.atKey_put_same h.isMap (AQ _),Maps.has_put_same h.isMap (AQ _)];simp
  · have hne:(Lit.int .i64 g) ≠ .int .i64 f:=by intro h;injection h with _ h;exact e h
    rw [Maps.atKey_put_other hne,Maps.has_put_other hne,(hD g hg').1,(hD g hg').2];simp [e]
theorem iL.del {w:World} {b:Nat} {L:List Int} (h:iL w b L) {f:Int} (hf:(Lit.int .i64 f).wf=true) (hL:f∈L) (ty:TypeId):
    ∃ w',(Builtin.delete_ #[259,3] ty #[.map (some b),.int .i64 f]).run Tryz.prog w=.ok (.tuple #[]) w'∧iL w' b (L.erase f)∧w.grownBy w' (some b):=by
  obtain ⟨hn,D,h,hs,hD⟩:=h
  obtain ⟨w',hrun,h',hg⟩:=h.drop law Tryz.underlying259 (uW hf) ty
  have hsz:Maps.size (D.del (.int .i64 f))=(L.erase f).length:=by
    have:=Maps.size_del (k:=.int .i64 f) (h.tidy law)
    rw [(hD f hf).2,hs] at this;rw [List.length_erase_of_mem hL];simp [hL] at this
    omega
  refine ⟨w',hrun,⟨hn.erase f,_,by rw [← hsz];exact OH h',hsz,fun g hg'=>?_⟩,hg.grown⟩
  by_cases e:g=f
  · subst e
    rw [Maps.atKey_del_same,Maps.has_del_same];simp [hn.mem_erase_iff]
  · have hne:(Lit.int .i64 g) ≠ .int .i64 f:=by intro h;injection h with _ h;exact e h
    rw [Maps.atKey_del_other hne,Maps.has_del_other hne,(hD g hg').1,(hD g hg').2];simp [hn.mem_erase_iff,e]
section
variable {ops:Array Oper} {rest:List Oper} {o:Oper} {a:Act} {Q:Exit→Act→World→Prop}
theorem OI (w:World) (hg:o.guard=none) (m x v:Operand) (hop:o.op=Op.mapUpdate 259 m x v) (b:Nat) (L:List Int) (f:Int)
    (hm:a.eval m=.map (some b)) (hx:a.eval x=.int .i64 f) (hv:a.eval v=.bool true) (h:iL w b L) (hf:(Lit.int .i64 f).wf=true) (hL:f∉L) (hmax:L.length<maxLen)
    (hK:∀ w',iL w' b (f::L)→w.grownBy w' (some b)→wpList Tryz.prog ops Q rest (a.put o.dst undef) w'):wpList Tryz.prog ops Q (o::rest) a w:=by
  refine wpList_plain hg fun K' hK'=>?_
  obtain ⟨w',hrun,r1,r2⟩:=h.put hf hL hmax
  unfold Oper.wp;simp [execOp,hop,hm,hx,hv,hrun,Result.andThen]
  exact hK' _ _ (hK w' r1 r2)
end
def iv (x:Int):Value:=.int .i64 x
structure SV where
  first:Int
  next:Int
  end_:Int
  given:List Int
  taken:List Int
def jW (w:World) (sb:Nat) (F:Nat→Prop) (s:SV):Prop:=∃ v bm,Blk w sb 261 #[.int .i64 s.first,.int .i64 s.next,.int .i64 s.end_,v,.map (some bm)] ∧
  w.ownsRow 0 3 1 v s.given.length (s.given.map iv)∧iL w bm s.taken∧F sb∧F bm∧(∀ g,v.ownBlock=some g→F g)∧(∀ g,F g→g<w.heap.size)
theorem jW.keeps {w w':World} {sb:Nat} {F G:Nat→Prop} {s:SV} (h:jW w sb F s) (k:az G w w') (hd:∀ g,F g→¬ G g):jW w' sb F s:=by
  obtain ⟨v,bm,h1,h2,h3,h4,h5,h6,h7⟩:=h
  exact ⟨v,bm,k.blk h1 (hd _ h4),k.row h2 (fun g hg=>hd _ (h6 g hg)),h3.keeps k (hd _ h5),h4,h5,h6,fun g hg=>Nat.lt_of_lt_of_le (h7 g hg) k.size⟩
theorem jW.bound {w:World} {sb:Nat} {F:Nat→Prop} {s:SV} (h:jW w sb F s) {g:Nat} (hg:F g):g<w.heap.size:=by
  obtain ⟨_,_,_,_,_,_,_,_,h7⟩:=h;exact h7 g hg
theorem Sy (f n:Int) (W:World) (h1:0≤f) (h2:f≤1048576) (h3:0≤n) (h4:n≤1048576-f):
    Calls Tryz.prog 73 #[.int .i64 f,.int .i64 n] W fun e w'=>e=.returned (.tuple #[.pointer (some ⟨W.heap.size+1,0,none⟩),.int .i64 0]) ∧
      jW w' (W.heap.size+1) (fun g=>g=W.heap.size∨g=W.heap.size+1) ⟨f,f,f+n,[],[]⟩∧Below W.heap.size W w':=by
  have e1:decide (f<0)=false:=by simp;omega
  have e2:decide (1048576<f)=false:=by simp;omega
  have e3:decide (n<0)=false:=by simp;omega
  have e4:decide (1048576-f<n)=false:=by simp;omega
  have hmm:=@run_makeMap Tryz.prog
  go_enter Tryz.func73,Tryz.ntmps73;go_wp2
  go_ret2
  refine ⟨rfl,⟨.slice none 0 0,W.heap.size,aI.bM _ _ _ _ (by simp),World.ownsRow_nil _ _ _ _,(iL.new W).keep (World.grownBy_alloc _ _ none) (by simp),.inr rfl,.inl rfl,fun g hg=>by simp [Value.ownBlock] at hg,fun g hg=>by simp;omega⟩,?_⟩
  exact ((Below.refl _ W).alloc (Nat.le_refl _) _).alloc (by simp) _
theorem Df {w:World} {base n:Nat} {e:TypeId} {v:Value} {xs:List Value} (h:w.ownsRow base e 1 v n xs):∃ A c,v=.slice A n c:=by
  rcases h.2 with ⟨rfl,rfl⟩|⟨g,cap,_,rfl,_⟩
  · exact ⟨_,_,rfl⟩
  · exact ⟨_,_,rfl⟩
end Go.Proofs.YtnebdlchogmneaaGreatDoor
namespace Go.Proofs.YtnebdlchogmneaaGreatDoor
open Go.RowKit
structure Oj where
  At:World→(Nat→Prop)→Prop
  keeps:∀ {w w':World} {F H:Nat→Prop},At w F→az H w w'→(∀ b,F b→¬ H b)→At w' F
  lt:∀ {w:World} {F:Nat→Prop} {b:Nat},At w F→F b→b<w.heap.size
def ae (b:Nat) (t:TypeId) (cs:Array Value):Oj where
  At w F:=Blk w b t cs∧∀ x,F x↔x=b
  keeps:=fun h k hd=>⟨k.blk h.1 (hd _ ((h.2 _).2 rfl)),h.2⟩
  lt:=fun h hb=>by rw [(h.2 _).1 hb];exact h.1.lt
def qx:Oj where
  At _ F:=∀ b,¬ F b
  keeps:=fun h _ _=>h
  lt:=fun h hb=>absurd hb (h _)
def OJ (O:Oj) (F:Nat→Prop) (w w':World):Prop:=∃ F',O.At w' F'∧(∀ b,F' b→F b∨w.heap.size≤b)∧az F w w'
structure aa (W:World) (os:List Oj) (w:World):Prop where
  ex:∃ Fs:List (Nat→Prop),Fs.length=os.length∧(∀ (i:Nat) O F,os[i]? = some O→Fs[i]? = some F→O.At w F)∧(∀ (i j:Nat) F G,Fs[i]? = some F→Fs[j]? = some G→i≠j→∀ b,F b→¬ G b)∧∀ (i:Nat) F,Fs[i]? = some F→∀ b,F b→W.heap.size≤b
  bel:Below W.heap.size W w
section
variable {W w w' w0:World} {os:List Oj}
theorem aa.nil (h:Below W.heap.size W w):aa W [] w:=⟨⟨[],rfl,fun i O F h=>by simp at h,fun i j F G h=>by simp at h,fun i F h=>by simp at h⟩,h⟩
theorem aa.step (h:aa W os w) (hb:Below w.heap.size w w'):aa W os w':=by
  obtain ⟨Fs,h1,h2,h3,h4⟩:=h.ex
  have k:az (fun _=>False) w w':=az.of_below hb
  exact ⟨⟨Fs,h1,fun i O F ho hf=>O.keeps (h2 i O F ho hf) k (fun _ _ h=>h),h3,h4⟩,h.bel.trans (hb.mono h.bel.size)⟩
theorem aa.drew (h:aa W os w):aa W os w.drew:=h.step (Below.refl _ _).drew
theorem o6 {α β:Type} {l:List α} {m:List β} (h:m.length=l.length) {i:Nat} {x:α} (hx:l[i]? = some x):∃ y,m[i]? = some y:=⟨_,List.getElem?_eq_getElem (by rw [h];exact (List.getElem?_eq_some_iff.1 hx).1)⟩
theorem aa.get (h:aa W os w) (i:Nat) (O:Oj) (hi:os[i]? = some O):∃ F,O.At w F:=by
  obtain ⟨Fs,h1,h2,h3,h4⟩:=h.ex
  obtain ⟨F,hF⟩:=o6 h1 hi
  exact ⟨F,h2 i O F hi hF⟩
theorem aa.add {O:Oj} {F:Nat→Prop} (h:aa W os w0) (hs:Below w0.heap.size w0 w) (ho:O.At w F) (hF:∀ b,F b→w0.heap.size≤b):aa W (O::os) w:=by
  have hst:=h.step hs
  obtain ⟨Fs,h1,h2,h3,h4⟩:=h.ex
  obtain ⟨lh,h1',h2',h3',h4'⟩:=hst.ex
  have k:az (fun _=>False) w0 w:=az.of_below hs
  have old:∀ (i:Nat) G,Fs[i]? = some G→∀ b,G b→b<w0.heap.size:=fun i G hG b hb=>by
    obtain ⟨O2,hO2⟩:=o6 h1.symm hG
    exact O2.lt (h2 i O2 G hO2 hG) hb
  refine ⟨⟨F::Fs,by simp [h1],fun i O2 F2 ho2 hf2=>?_,fun i j F2 G2 hf2 hg2 hij b hb hb2=>?_,fun i F2 hf2 b hb=>?_⟩,hst.bel⟩
  · cases i with
    | zero =>
      simp only [List.getElem?_cons_zero,Option.some.injEq] at ho2 hf2
      subst ho2;subst hf2;exact ho
    | succ i =>
      rw [List.getElem?_cons_succ] at ho2 hf2;exact O2.keeps (h2 i O2 F2 ho2 hf2) k (fun _ _ h=>h)
  · cases i with
    | zero =>
      cases j with
      | zero=>exact hij rfl
      | succ j =>
        simp only [List.getElem?_cons_zero,Option.some.injEq] at hf2
        rw [List.getElem?_cons_succ] at hg2;subst hf2;have:=hF b hb
        have:=old j G2 hg2 b hb2
        omega
    | succ i =>
      rw [List.getElem?_cons_succ] at hf2
      cases j with
      | zero =>
        simp only [List.getElem?_cons_zero,Option.some.injEq] at hg2
        subst hg2;have:=hF b hb2
        have:=old i F2 hf2 b hb
        omega
      | succ j =>
        rw [List.getElem?_cons_succ] at hg2;exact h3 i j F2 G2 hf2 hg2 (by omega) b hb hb2
  · cases i with
    | zero =>
      simp only [List.getElem?_cons_zero,Option.some.injEq] at hf2
      subst hf2;exact Nat.le_trans h.bel.size (hF b hb)
    | succ i =>
      rw [List.getElem?_cons_succ] at hf2;exact h4 i F2 hf2 b hb
theorem aa.push (h:aa W os w) (cs:Array Value) (t:TypeId) {b:Nat} (hb:b=w.heap.size):aa W (ae b t cs::os) (w.alloc (.cells cs t)):=by
  subst hb;exact h.add (F:=fun x=>x=w.heap.size) ((Below.refl _ _).alloc (Nat.le_refl _) _) ⟨aI.bM _ _ _ _ rfl,fun _=>Iff.rfl⟩ (fun b e=>by rw [e];exact Nat.le_refl _)
theorem aa.blk (h:aa W os w) (i:Nat) {b:Nat} {t:TypeId} {cs:Array Value} (hi:os[i]? = some (ae b t cs)):Blk w b t cs:=by
  obtain ⟨F,h1,_⟩:=h.get i _ hi
  exact h1
theorem aa.sub {os':List Oj} (h:aa W os w) (f:Nat→Nat) (hf:∀ i O,os'[i]? = some O→os[f i]? = some O) (hinj:∀ i j,i<os'.length→j<os'.length→f i=f j→i=j):aa W os' w:=by
  obtain ⟨Fs,h1,h2,h3,h4⟩:=h.ex
  have get:∀ (i:Nat) G,((List.range os'.length).map (fun i=>Fs.getD (f i) (fun _=>False)))[i]? = some G→i<os'.length∧Fs[f i]? = some G:=fun i G hG=>by
    have hi:i<os'.length:=by have:=(List.getElem?_eq_some_iff.1 hG).1;simpa using this
    rw [List.getElem?_map,List.getElem?_range hi] at hG;simp only [Option.map_some,Option.some.injEq] at hG
    obtain ⟨O,hO⟩:∃ O,os'[i]? = some O:=⟨_,List.getElem?_eq_getElem hi⟩
    obtain ⟨F,hF⟩:=o6 h1 (hf i O hO)
    refine ⟨hi,?_⟩
    rw [← hG,List.getD_eq_getElem?_getD,hF]
    rfl
  refine ⟨⟨(List.range os'.length).map (fun i=>Fs.getD (f i) (fun _=>False)),by simp,fun i O F ho hF=>?_,fun i j F G hF hG hij=>?_,fun i F hF=>?_⟩,h.bel⟩
  · exact h2 (f i) O F (hf i O ho) (get i F hF).2
  · obtain ⟨a1,a2⟩:=get i F hF
    obtain ⟨b1,b2⟩:=get j G hG
    exact h3 (f i) (f j) F G a2 b2 (fun e=>hij (hinj i j a1 b1 e))
  · exact h4 (f i) F (get i F hF).2
theorem aa.drop (h:aa W os w) (n:Nat):aa W (os.drop n) w:=h.sub (fun i=>n+i) (fun i O ho=>by rw [List.getElem?_drop] at ho;exact ho) (fun i j _ _ e=>by omega)
theorem aa.turned (h:aa W os w) (i:Nat) {O':Oj} {F F':Nat→Prop} {Fs:List (Nat→Prop)} (h1:Fs.length=os.length) (h2:∀ (i:Nat) O F,os[i]? = some O→Fs[i]? = some F→O.At w F) (h3:∀ (i j:Nat) F G,Fs[i]? = some F→Fs[j]? = some G→i≠j→∀ b,F b→¬ G b) (h4:∀ (i:Nat) F,Fs[i]? = some F→∀ b,F b→W.heap.size≤b)
    (hF:Fs[i]? = some F) (ho:O'.At w' F') (hn:∀ b,F' b→F b∨w.heap.size≤b) (k:az F w w'):aa W (os.set i O') w'∧Below W.heap.size w w':=by
  have hb:=k.below (B:=W.heap.size) (h4 i F hF) h.bel.size
  have hil:i<Fs.length:=(List.getElem?_eq_some_iff.1 hF).1
  have old:∀ (i:Nat) G,Fs[i]? = some G→∀ b,G b→b<w.heap.size:=fun i G hG b hb=>by
    obtain ⟨O2,hO2⟩:=o6 h1.symm hG
    exact O2.lt (h2 i O2 G hO2 hG) hb
  have get:∀ (j:Nat) G,(Fs.set i F')[j]? = some G→(j=i∧G=F')∨(j≠i∧Fs[j]? = some G):=fun j G hG=>by
    by_cases e:j=i
    · subst e
      rw [List.getElem?_set_self hil] at hG
      injection hG with hG
      exact .inl ⟨rfl,hG.symm⟩
    · rw [List.getElem?_set_ne (fun e2=>e e2.symm)] at hG
      exact .inr ⟨e,hG⟩
  refine ⟨⟨⟨Fs.set i F',by simp [h1],fun j O2 G hO2 hG=>?_,fun j l G1 G2 hG1 hG2 hjl b hb1 hb2=>?_,fun j G hG b hb1=>?_⟩,h.bel.trans hb⟩,hb⟩
  · rcases get j G hG with ⟨rfl,rfl⟩|⟨e,hG⟩
    · rw [List.getElem?_set_self (by rw [← h1];exact hil)] at hO2
      injection hO2 with hO2
      subst hO2;exact ho
    · rw [List.getElem?_set_ne (fun e2=>e e2.symm)] at hO2
      exact O2.keeps (h2 j O2 G hO2 hG) k (h3 j i G F hG hF e)
  · rcases get j G1 hG1 with ⟨e1,f1⟩|⟨e1,g1⟩
    · rcases get l G2 hG2 with ⟨e2,f2⟩|⟨e2,g2⟩
      · exact hjl (e1.trans e2.symm)
      · rw [f1] at hb1
        rcases hn b hb1 with h5|h5
        · exact h3 i l F G2 hF g2 (fun e=>e2 e.symm) b h5 hb2
        · have:=old l G2 g2 b hb2;omega
    · rcases get l G2 hG2 with ⟨e2,f2⟩|⟨e2,g2⟩
      · rw [f2] at hb2
        rcases hn b hb2 with h5|h5
        · exact h3 j i G1 F g1 hF e1 b hb1 h5
        · have:=old j G1 g1 b hb1;omega
      · exact h3 j l G1 G2 g1 g2 hjl b hb1 hb2
  · rcases get j G hG with ⟨rfl,rfl⟩|⟨e,hG⟩
    · rcases hn b hb1 with h5|h5
      · exact h4 j F hF b h5
      · exact Nat.le_trans h.bel.size h5
    · exact h4 j G hG b hb1
theorem aa.Zn {P:Program} {f:FuncId} {args:Array Value} {R:Ending→Oj→Prop} (h:aa W os w) (i:Nat) (O:Oj) (hi:os[i]? = some O) (hc:∀ F,O.At w F→Calls P f args w fun e w'=>∃ O',R e O'∧OJ O' F w w'):
    Calls P f args w fun e w'=>∃ O',R e O'∧aa W (os.set i O') w'∧Below W.heap.size w w':=by
  obtain ⟨Fs,h1,h2,h3,h4⟩:=h.ex
  obtain ⟨F,hF⟩:=o6 h1 hi
  refine (hc F (h2 i O F hi hF)).mono ?_
  rintro e w' ⟨O',hr,F',k1,k2,k3⟩;exact ⟨O',hr,h.turned i h1 h2 h3 h4 hF k1 k2 k3⟩
theorem aa.turn {P:Program} {f:FuncId} {args:Array Value} {R:Ending→Prop} (h:aa W os w) (i:Nat) (O O':Oj) (hi:os[i]? = some O) (hc:∀ F,O.At w F→Calls P f args w fun e w'=>R e∧OJ O' F w w'):
    Calls P f args w fun e w'=>R e∧aa W (os.set i O') w'∧Below W.heap.size w w':=by
  refine (h.Zn (R:=fun e Q=>R e∧Q=O') i O hi (fun F hF=>(hc F hF).mono fun e w' ⟨h1,h2⟩=>⟨O',⟨h1,rfl⟩,h2⟩)).mono ?_
  rintro e w' ⟨_,⟨hr,rfl⟩,h2,h3⟩;exact ⟨hr,h2,h3⟩
theorem aa.wrote (h:aa W os w) (i:Nat) {b:Nat} {t:TypeId} {cs cs':Array Value} (hi:os[i]? = some (ae b t cs)) (hb:Blk w' b t cs') (k:az (fun x=>x=b) w w'):aa W (os.set i (ae b t cs')) w'∧Below W.heap.size w w':=by
  obtain ⟨Fs,h1,h2,h3,h4⟩:=h.ex
  obtain ⟨F,hF⟩:=o6 h1 hi
  have hat:=h2 i _ F hi hF
  exact h.turned i (F':=F) h1 h2 h3 h4 hF ⟨hb,hat.2⟩ (fun b hb=>.inl hb) (k.mono fun x e=>(hat.2 x).2 e)
theorem aa.ay (h:aa W os w) (i:Nat) {b:Nat} {t:TypeId} {cs:Array Value} (hi:os[i]? = some (ae b t cs)) (j:Nat) (u:Value):aa W (os.set i (ae b t (cs.setIfInBounds j u))) (w.setCell ⟨b,j,none⟩ u):=
  (h.wrote i hi ((h.blk i hi).ay j u) ((az.refl (fun x=>x=b) w).setCell (p:=⟨b,j,none⟩) (.inl rfl) u)).1
theorem aa.row (h:aa W os w) (i:Nat) {b:Nat} {t:TypeId} {cs:Array Value} (hi:os[i]? = some (ae b t cs)) (cs':Array Value):aa W (os.set i (ae b t cs')) (w.setRow b cs'):=
  (h.wrote i hi ((h.blk i hi).setRow cs') ((az.refl (fun x=>x=b) w).setRow (.inl rfl) cs')).1
theorem aa.same {os':List Oj} (h:aa W os w) (h':aa W os' w') (i j:Nat) {b:Nat} {t:TypeId} {cs:Array Value} (hi:os[i]? = some (ae b t cs)) (hj:os'[j]? = some (ae b t cs)):w'.heap[b]? = w.heap[b]?:=(h'.blk j hj).trans (h.blk i hi).symm
end
end Go.Proofs.YtnebdlchogmneaaGreatDoor
namespace Go.Proofs.YtnebdlchogmneaaGreatDoor
open Go.RowKit Go.Maps
def Fh (A B:Oj):Oj where
  At w F:=∃ Fa Fb,A.At w Fa∧B.At w Fb∧(∀ b,Fa b→¬ Fb b)∧∀ b,F b↔Fa b∨Fb b
  keeps:=fun ⟨Fa,Fb,ha,hb,hd,hF⟩ k hn=>⟨Fa,Fb,A.keeps ha k (fun b h=>hn b ((hF b).2 (.inl h))),B.keeps hb k (fun b h=>hn b ((hF b).2 (.inr h))),hd,hF⟩
  lt:=fun ⟨_,_,ha,hb,_,hF⟩ h=>((hF _).1 h).elim (A.lt ha) (B.lt hb)
section
variable {W w w':World} {os:List Oj} {A A' B:Oj}
theorem aa.join (h:aa W (A::B::os) w):aa W (Fh A B::os) w:=by
  obtain ⟨Fs,h1,h2,h3,h4⟩:=h.ex
  match Fs,h1,h2,h3,h4 with
  | Fa::Fb::Fs,h1,h2,h3,h4 =>
    have ha:=h2 0 A Fa rfl rfl
    have hb:=h2 1 B Fb rfl rfl
    have hd:=h3 0 1 Fa Fb rfl rfl (by decide)
    refine ⟨⟨(fun b=>Fa b∨Fb b)::Fs,by simpa using h1,fun i O F ho hf=>?_,fun i j F G hf hg hij b hb1 hb2=>?_,fun i F hf b hb1=>?_⟩,h.bel⟩
    · cases i with
      | zero =>
        simp only [List.getElem?_cons_zero,Option.some.injEq] at ho hf
        subst ho;subst hf;exact ⟨Fa,Fb,ha,hb,hd,fun b=>Iff.rfl⟩
      | succ i=>exact h2 (i+2) O F ho hf
    · cases i with
      | zero =>
        simp only [List.getElem?_cons_zero,Option.some.injEq] at hf
        subst hf
        cases j with
        | zero=>exact hij rfl
        | succ j =>
          rcases hb1 with hb1|hb1
          · exact h3 0 (j+2) Fa G rfl hg (by omega) b hb1 hb2
          · exact h3 1 (j+2) Fb G rfl hg (by omega) b hb1 hb2
      | succ i =>
        cases j with
        | zero =>
          simp only [List.getElem?_cons_zero,Option.some.injEq] at hg
          subst hg;rcases hb2 with hb2|hb2
          · exact h3 (i+2) 0 F Fa hf rfl (by omega) b hb1 hb2
          · exact h3 (i+2) 1 F Fb hf rfl (by omega) b hb1 hb2
        | succ j=>exact h3 (i+2) (j+2) F G hf hg (by omega) b hb1 hb2
    · cases i with
      | zero =>
        simp only [List.getElem?_cons_zero,Option.some.injEq] at hf
        subst hf;rcases hb1 with hb1|hb1
        · exact h4 0 Fa rfl b hb1
        · exact h4 1 Fb rfl b hb1
      | succ i=>exact h4 (i+2) F hf b hb1
  | [_],h1,_,_,_=>simp at h1
  | [],h1,_,_,_=>simp at h1
theorem aa.split (h:aa W (Fh A B::os) w):aa W (A::B::os) w:=by
  obtain ⟨Fs,h1,h2,h3,h4⟩:=h.ex
  match Fs,h1,h2,h3,h4 with
  | F0::Fs,h1,h2,h3,h4 =>
    obtain ⟨Fa,Fb,ha,hb,hd,hF⟩:=h2 0 _ F0 rfl rfl
    refine ⟨⟨Fa::Fb::Fs,by simpa using h1,fun i O F ho hf=>?_,fun i j F G hf hg hij b hb1 hb2=>?_,fun i F hf b hb1=>?_⟩,h.bel⟩
    · match i,ho,hf with
      | 0,ho,hf =>
        simp only [List.getElem?_cons_zero,Option.some.injEq] at ho hf
        subst ho;subst hf;exact ha
      | 1,ho,hf =>
        simp only [List.getElem?_cons_succ,List.getElem?_cons_zero,Option.some.injEq] at ho hf
        subst ho;subst hf;exact hb
      | i+2,ho,hf=>exact h2 (i+1) O F ho hf
    · have side:∀ (i:Nat) (F:Nat→Prop),(Fa::Fb::Fs)[i]? = some F→(i=0∧F=Fa)∨(i=1∧F=Fb)∨(2≤i∧Fs[i-2]? = some F):=fun i F hf=>by
        match i,hf with
        | 0,hf=>simp only [List.getElem?_cons_zero,Option.some.injEq] at hf;exact .inl ⟨rfl,hf.symm⟩
        | 1,hf=>simp only [List.getElem?_cons_succ,List.getElem?_cons_zero,Option.some.injEq] at hf;exact .inr (.inl ⟨rfl,hf.symm⟩)
        | i+2,hf=>exact .inr (.inr ⟨by omega,hf⟩)
      have h3':∀ (j:Nat) (G:Nat→Prop),Fs[j]? = some G→∀ b,Fa b∨Fb b→¬ G b:=fun j G hg b hb1=>h3 0 (j+1) F0 G rfl hg (by omega) b ((hF b).2 hb1)
      rcases side i F hf with ⟨rfl,rfl⟩|⟨rfl,rfl⟩|⟨hi,hf'⟩
      · rcases side j G hg with ⟨rfl,rfl⟩|⟨rfl,rfl⟩|⟨hj,hg'⟩
        · exact hij rfl
        · exact hd b hb1 hb2
        · exact h3' _ G hg' b (.inl hb1) hb2
      · rcases side j G hg with ⟨rfl,rfl⟩|⟨rfl,rfl⟩|⟨hj,hg'⟩
        · exact hd b hb2 hb1
        · exact hij rfl
        · exact h3' _ G hg' b (.inr hb1) hb2
      · rcases side j G hg with ⟨rfl,rfl⟩|⟨rfl,rfl⟩|⟨hj,hg'⟩
        · exact h3' _ F hf' b (.inl hb2) hb1
        · exact h3' _ F hf' b (.inr hb2) hb1
        · exact h3 (i-2+1) (j-2+1) F G hf' hg' (by omega) b hb1 hb2
    · match i,hf with
      | 0,hf=>simp only [List.getElem?_cons_zero,Option.some.injEq] at hf;subst hf;exact h4 0 F0 rfl b ((hF b).2 (.inl hb1))
      | 1,hf=>simp only [List.getElem?_cons_succ,List.getElem?_cons_zero,Option.some.injEq] at hf;subst hf;exact h4 0 F0 rfl b ((hF b).2 (.inr hb1))
      | i+2,hf=>exact h4 (i+1) F hf b hb1
  | [],h1,_,_,_=>simp at h1
theorem aa.conv (hc:∀ F,A.At w F→A'.At w F) (h:aa W (A::os) w):aa W (A'::os) w:=by
  obtain ⟨Fs,h1,h2,h3,h4⟩:=h.ex
  refine ⟨⟨Fs,h1,fun i O F ho hf=>?_,h3,h4⟩,h.bel⟩
  cases i with
  | zero =>
    simp only [List.getElem?_cons_zero,Option.some.injEq] at ho
    subst ho;exact hc F (h2 0 A F rfl hf)
  | succ i=>exact h2 (i+1) O F ho hf
end
def aS (base:Nat) (e:TypeId) (size n:Nat) (v:Value) (xs:List Value):Oj where
  At w F:=w.ownsRow base e size v n xs∧∀ b,F b↔v.ownBlock=some b
  keeps:=fun ⟨h1,h2⟩ k hd=>⟨k.row h1 (fun g hg=>hd g ((h2 g).2 hg)),h2⟩
  lt:=fun ⟨h1,h2⟩ hb=>(h1.lt _ ((h2 _).1 hb)).2
section
variable {W w w':World} {os:List Oj} {base size n n':Nat} {e:TypeId} {v v':Value} {xs xs':List Value}
theorem aa.row0 (h:aa W os w) (base:Nat) (e:TypeId) (size:Nat):aa W (aS base e size 0 (.slice none 0 0) []::os) w:=
  h.add (F:=fun _=>False) (Below.refl _ _) ⟨World.ownsRow_nil _ _ _ _,fun b=>by simp [Value.ownBlock]⟩ (fun b hb=>hb.elim)
theorem aa.owns (h:aa W os w) (i:Nat) (hi:os[i]? = some (aS base e size n v xs)):w.ownsRow base e size v n xs:=by
  obtain ⟨F,h1,_⟩:=h.get i _ hi
  exact h1
theorem aa.grow (h:aa W os w) (i:Nat) (hi:os[i]? = some (aS base e size n v xs)) (ho:w'.ownsRow base e size v' n' xs') (hg:w.grownBy w' v.ownBlock) (hat:v'.ownBlock=v.ownBlock∨v'.ownBlock=some w.heap.size):
    aa W (os.set i (aS base e size n' v' xs')) w':=by
  obtain ⟨Fs,h1,h2,h3,h4⟩:=h.ex
  obtain ⟨F,hF⟩:=o6 h1 hi
  have hA:=h2 i _ F hi hF
  refine (h.turned i (O':=aS base e size n' v' xs') (F:=F) (F':=fun b=>v'.ownBlock=some b) h1 h2 h3 h4 hF ⟨ho,fun b=>Iff.rfl⟩ (fun b hb=>?_) ⟨hg.os,hg.tape,hg.output,hg.size,fun j hj hne=>hg.block j hj (fun e=>hne ((hA.2 j).2 e.symm))⟩).1
  rcases hat with e|e
  · exact .inl ((hA.2 b).2 (by rw [← e];exact hb))
  · rw [e] at hb
    injection hb with hb
    exact .inr (Nat.le_of_eq hb)
end
theorem FD {w:World} {base s n:Nat} {e:TypeId} {v:Value} {xs:List Value} (h:w.ownsRow base e s v n xs):∃ A c,v=.slice A n c:=by
  rcases h.2 with ⟨rfl,rfl⟩|⟨g,cap,_,rfl,_⟩
  · exact ⟨_,_,rfl⟩
  · exact ⟨_,_,rfl⟩
def jG (et:TypeId) (w:World) (b n:Nat) (f:Nat→Option Int):Prop:=∃ D:DataW Unit,w.ownsMap Tryz.prog 3 (plainElem Tryz.prog et) b n D∧Maps.size D=n ∧
  ∀ k:Nat,(Lit.int .i64 (k:Int)).wf=true→D.atKey (.int .i64 (k:Int)) (.lit (.int .i64 0))=.lit (.int .i64 ((f k).getD 0))∧Maps.has D (.int .i64 (k:Int))=(f k).isSome
section
variable {et mt:TypeId} {w w':World} {b n:Nat} {f:Nat→Option Int}
theorem jG.lt (h:jG et w b n f):b<w.heap.size:=by
  obtain ⟨D,h,_⟩:=h;exact h.lt
theorem jG.keeps {F:Nat→Prop} (h:jG et w b n f) (hg:az F w w') (hne:¬ F b):jG et w' b n f:=by
  obtain ⟨D,h,r⟩:=h;exact ⟨D,hg.map h hne,r⟩
theorem jG.new (et:TypeId) (w:World):jG et (w.alloc (.map #[] 0)) w.heap.size 0 (fun _=>none):=
  ⟨.map [],World.ownsMap_made _ _ _ _,rfl,fun f _=>⟨by simp [DataW.atKey],by simp [Maps.has]⟩⟩
theorem OL (he:Tryz.prog.underlying et=some (.int .i64)) {v:Value} {y:Int} {ps:List MemPlace} (h:plainElem (H:=Unit) Tryz.prog et v=some (.lit (.int .i64 y),ps)):v=.int .i64 y:=by
  obtain ⟨a,rfl,e,_⟩:=plainElem_int_inv he h
  have e1:=congrArg Prod.fst e
  simp only [DataW.lit.injEq,Lit.int.injEq,true_and] at e1
  rw [e1]
theorem jG.look (h:jG et w b n f) (he:Tryz.prog.underlying et=some (.int .i64)) (hm:Tryz.prog.underlying mt=some (.map 3 et)) (hz:(zeroValue et).run Tryz.prog w=.ok (.int .i64 0) w) {k:Nat} (hk:(Lit.int .i64 (k:Int)).wf=true):
    (Instr.lookup mt (.map (some b)) (.int .i64 (k:Int)) false).run Tryz.prog w=.ok (.int .i64 ((f k).getD 0)) w:=by
  obtain ⟨D,h,_,hD⟩:=h
  obtain ⟨v,ps,hrun,hv⟩:=h.lookup law hm hz (plainElem_int he (by decide)) (uW hk)
  rw [(hD k hk).1] at hv;rw [hrun,OL he hv]
theorem jG.yc (h:jG et w b n f) (he:Tryz.prog.underlying et=some (.int .i64)) (hm:Tryz.prog.underlying mt=some (.map 3 et)) (hz:(zeroValue et).run Tryz.prog w=.ok (.int .i64 0) w) {k:Nat} (hk:(Lit.int .i64 (k:Int)).wf=true):
    (Instr.lookup mt (.map (some b)) (.int .i64 (k:Int)) true).run Tryz.prog w=.ok (.tuple #[.int .i64 ((f k).getD 0),.bool (f k).isSome]) w:=by
  obtain ⟨D,h,_,hD⟩:=h
  obtain ⟨v,ps,hrun,hv⟩:=h.look_ok law hm hz (plainElem_int he (by decide)) (uW hk)
  rw [(hD k hk).1] at hv;rw [hrun,OL he hv,(hD k hk).2]
theorem Zo {D:DataW Unit} (h:w.ownsMap Tryz.prog 3 (plainElem Tryz.prog et) b n D):w.ownsMap Tryz.prog 3 (plainElem Tryz.prog et) b (Maps.size D) D:=by
  obtain ⟨es,clock,hb,F,hs,rfl⟩:=h
  exact ⟨es,clock,hb,F,by simp [Maps.size,length_sorted],rfl⟩
def dK (f:Nat→Option Int) (k:Nat) (x:Int):Nat→Option Int:=fun j=>if j=k then some x else f j
theorem jG.put (h:jG et w b n f) (he:Tryz.prog.underlying et=some (.int .i64)) (hm:Tryz.prog.underlying mt=some (.map 3 et)) {k:Nat} {x:Int} (hk:(Lit.int .i64 (k:Int)).wf=true) (hx:(Lit.int .i64 x).wf=true) (hn:n<maxLen):
    ∃ w',(Instr.mapUpdate mt (.map (some b)) (.int .i64 (k:Int)) (.int .i64 x)).run Tryz.prog w=.ok () w'∧jG et w' b (if (f k).isSome then n else n+1) (dK f k x)∧w.grownBy w' (some b):=by
  obtain ⟨D,h,hs,hD⟩:=h
  obtain ⟨w',hrun,h',hg⟩:=h.update law hm hn (uW hk) (plainElem_int he hx)
  have hsz:Maps.size (D.put (.int .i64 (k:Int)) (.lit (.int .i64 x)))=if (f k).isSome then n else n+1:=by
    rw [Maps.size_put (h.tidy law),(hD k hk).2,hs]
  refine ⟨w',hrun,⟨_,by rw [← hsz];exact Zo h',hsz,fun g hg'=>?_⟩,hg⟩
  unfold dK;by_cases e:g=k
  · subst e
    rw [Maps.atKey_put_same h.isMap (AQ _),Maps.has_put_same h.isMap (AQ _)];simp
  · have hne:(Lit.int .i64 (g:Int)) ≠ .int .i64 (k:Int):=by intro h;injection h with _ h;exact e (by omega)
    rw [Maps.atKey_put_other hne,Maps.has_put_other hne,(hD g hg').1,(hD g hg').2];simp [e]
end
def dX (et:TypeId) (b n:Nat) (f:Nat→Option Int):Oj where
  At w F:=jG et w b n f∧∀ x,F x↔x=b
  keeps:=fun ⟨h1,h2⟩ k hd=>⟨h1.keeps k (hd _ ((h2 _).2 rfl)),h2⟩
  lt:=fun ⟨h1,h2⟩ hb=>by rw [(h2 _).1 hb];exact h1.lt
section
variable {W w w':World} {os:List Oj} {et:TypeId} {b n n':Nat} {f f':Nat→Option Int}
theorem aa.sM (h:aa W os w) (i:Nat) (hi:os[i]? = some (dX et b n f)):jG et w b n f:=by
  obtain ⟨F,h1,_⟩:=h.get i _ hi
  exact h1
theorem aa.mapped (h:aa W os w) (i:Nat) (hi:os[i]? = some (dX et b n f)) (hm:jG et w' b n' f') (hg:w.grownBy w' (some b)):aa W (os.set i (dX et b n' f')) w'∧Below W.heap.size w w':=by
  obtain ⟨Fs,h1,h2,h3,h4⟩:=h.ex
  obtain ⟨F,hF⟩:=o6 h1 hi
  have hA:=h2 i _ F hi hF
  exact h.turned i (O':=dX et b n' f') (F:=F) (F':=F) h1 h2 h3 h4 hF ⟨hm,hA.2⟩ (fun b hb=>.inl hb) ⟨hg.os,hg.tape,hg.output,hg.size,fun j hj hne=>hg.block j hj (fun e=>hne ((hA.2 j).2 (by cases e;rfl)))⟩
theorem aa.rF (h:aa W os w) (et:TypeId):aa W (dX et w.heap.size 0 (fun _=>none)::os) (w.alloc (.map #[] 0)):=
  h.add (F:=fun x=>x=w.heap.size) ((Below.refl _ _).alloc (Nat.le_refl _) _) ⟨jG.new et w,fun _=>Iff.rfl⟩ (fun b e=>by rw [e];exact Nat.le_refl _)
end
section
variable {ops:Array Oper} {rest:List Oper} {o:Oper} {a:Act} {Q:Exit→Act→World→Prop}
theorem KA (w:World) (hg:o.guard=none) (m x v:Operand) (mt et:TypeId) (hop:o.op=Op.mapUpdate mt m x v) (he:Tryz.prog.underlying et=some (.int .i64)) (hmt:Tryz.prog.underlying mt=some (.map 3 et)) (b n:Nat) (f:Nat→Option Int) (k:Nat) (y:Int)
    (hm:a.eval m=.map (some b)) (hx:a.eval x=.int .i64 (k:Int)) (hv:a.eval v=.int .i64 y) (h:jG et w b n f) (hk:(Lit.int .i64 (k:Int)).wf=true) (hy:(Lit.int .i64 y).wf=true) (hmax:n<maxLen)
    (hK:∀ w',jG et w' b (if (f k).isSome then n else n+1) (dK f k y)→w.grownBy w' (some b)→wpList Tryz.prog ops Q rest (a.put o.dst undef) w'):wpList Tryz.prog ops Q (o::rest) a w:=by
  refine wpList_plain hg fun K' hK'=>?_
  obtain ⟨w',hrun,r1,r2⟩:=h.put he hmt hk hy hmax
  unfold Oper.wp;simp [execOp,hop,hm,hx,hv,hrun,Result.andThen]
  exact hK' _ _ (hK w' r1 r2)
end
end Go.Proofs.YtnebdlchogmneaaGreatDoor
namespace Go.Proofs.YtnebdlchogmneaaGreatDoor
open Go.RowKit
def gF (n:Int):Bool:=n==0||n==1||n==2
theorem Bu {n:Int} (h:gF n=true):n=0∨n=1∨n=2:=by simp [gF] at h;omega
theorem Zp (n:Int):gF n=(decide (0≤n)&&decide (n<3)):=by
  rw [Bool.eq_iff_iff];simp [gF];omega
theorem zk (n:Int) (w:World):
    Calls Tryz.prog 264 #[.int .i64 n] w fun e w'=>e=.returned (.bool (gF n))∧w=w':=by
  rw [Zp];go_enter Tryz.func264,Tryz.ntmps264;go_wp2
  all_goals (go_ret;refine ⟨?_,rfl⟩;first|rfl|(simp [*];done)|(simp [*];omega))
def nQ (v a n:Nat):Nat:=v / 2 ^ a % 2 ^ n
theorem Rm (v a n:Nat):nQ v a n<2 ^ n:=Nat.mod_lt _ (Nat.two_pow_pos n)
/-! Numbers of an address. -/
def Ic (n:Int):Nat:=if n=0 then 12 else if n=1 then 21 else 30
def dU (va:Nat) (n:Int):Nat:=if gF n then nQ va (Ic n) 9 else 0
def pW (n:Int):Nat:=if gF n then 2 ^ Ic n else 0
theorem Zq (va:Nat) (n:Int) (h:gF n=false):dU va n=0:=by simp [dU,h]
theorem Zr (n:Int) (h:gF n=false):pW n=0:=by simp [pW,h]
theorem qf (v k:Nat) (m:Int) (hk:k≤63) (hm:m=((2 ^ k-1:Nat):Int)) (hv:v<18446744073709551616):bits .and .u64 (v:Int) m=((v % 2 ^ k:Nat):Int):=by
  have h1:2 ^ k≤2 ^ 63:=Nat.pow_le_pow_right (by decide) hk
  have h2:=Nat.two_pow_pos k
  rw [hm,bits_and_u64_nat _ _ hv (by omega),Nat.and_two_pow_sub_one_eq_mod]
theorem Ie (va k:Nat) (d:Int) (hd:d=((2 ^ k:Nat):Int)) (hv:va<18446744073709551616):wrap64 (bits .and .u64 ((va:Int) / d) 511)=((nQ va k 9:Nat):Int):=by
  have h:va / 2 ^ k≤va:=Nat.div_le_self _ _
  have h2:va / 2 ^ k % 512<512:=Nat.mod_lt _ (by decide)
  unfold nQ;rw [hd,← Int.natCast_ediv];generalize va / 2 ^ k=x at *;rw [qf _ 9 511 (by decide) rfl (by omega),IntWalk.wrap64_in _ (by omega)]
theorem EF (va:Nat) (n:Int) (w:World) (hv:va<18446744073709551616):
    Calls Tryz.prog 214 #[.int .u64 va,.int .i64 n] w fun e w'=>e=.returned (.int .i64 ((dU va n:Nat):Int))∧w=w':=by
  rcases Bool.eq_false_or_eq_true (gF n) with h1|h1
  · rcases Bu h1 with rfl|rfl|rfl
    all_goals
      have H1:=Yh h1
      have HV:=Yh hv
      clear h1 hv;go_enter Tryz.func214,Tryz.ntmps214
      go_wp2_with (go_at_call 264;refine (zk _ _).mono ?_;rintro e w' ⟨rfl,rfl⟩;rw [H1.out])
      go_ret
      refine ⟨?_,rfl⟩
      first
      | exact congrArg (fun x=>Ending.returned (.int .i64 x)) (Ie va 12 4096 rfl HV.out)
      | exact congrArg (fun x=>Ending.returned (.int .i64 x)) (Ie va 21 2097152 rfl HV.out)
      | exact congrArg (fun x=>Ending.returned (.int .i64 x)) (Ie va 30 1073741824 rfl HV.out)
  · have H1:=Yh h1
    clear h1;go_enter Tryz.func214,Tryz.ntmps214
    go_wp2_with (go_at_call 264;refine (zk _ _).mono ?_;rintro e w' ⟨rfl,rfl⟩;rw [H1.out])
    go_ret
    exact ⟨by rw [Zq va n H1.out];rfl,rfl⟩
theorem Zt (n:Int) (w:World):
    Calls Tryz.prog 338 #[.int .i64 n] w fun e w'=>e=.returned (.int .u64 ((pW n:Nat):Int))∧w=w':=by
  rcases Bool.eq_false_or_eq_true (gF n) with h1|h1
  · rcases Bu h1 with rfl|rfl|rfl
    all_goals
      have H1:=Yh h1
      clear h1;go_enter Tryz.func338,Tryz.ntmps338
      go_wp2_with (go_at_call 264;refine (zk _ _).mono ?_;rintro e w' ⟨rfl,rfl⟩;rw [H1.out])
      go_ret
      exact ⟨rfl,rfl⟩
  · have H1:=Yh h1
    clear h1;go_enter Tryz.func338,Tryz.ntmps338
    go_wp2_with (go_at_call 264;refine (zk _ _).mono ?_;rintro e w' ⟨rfl,rfl⟩;rw [H1.out])
    go_ret
    exact ⟨by rw [Zr n H1.out];rfl,rfl⟩
def bD (va:Nat):Bool:=((nQ va 38 26:Nat):Int)==0||((nQ va 38 26:Nat):Int)==67108863
theorem zQ (va:Nat) (w:World) (hv:va<18446744073709551616):
    Calls Tryz.prog 164 #[.int .u64 va] w fun e w'=>e=.returned (.bool (bD va))∧w=w':=by
  have HV:=Yh hv
  clear hv;go_enter Tryz.func164,Tryz.ntmps164;go_wp2;go_ret
  refine ⟨?_,rfl⟩
  refine congrArg (fun b=>Ending.returned (.bool b)) ?_
  show (IntKind.u64.wrap (wrap64 (wrap64 (va:Int)*33554432) / 33554432)==(va:Int))=bD va
  have hv:=HV.out
  rw [Bool.eq_iff_iff];simp only [bD,nQ,beq_iff_eq,Bool.or_eq_true,IntKind.wrap_u64,wrap64,Nat.reducePow]
  omega
def df (va:Nat):Nat:=va / 4096 % 134217728
theorem Ig (va:Nat) (w:World) (hv:va<18446744073709551616):
    Calls Tryz.prog 350 #[.int .u64 va] w fun e w'=>e=.returned (.int .u64 ((df va:Nat):Int))∧w=w':=by
  have HV:=Yh hv
  clear hv;go_enter Tryz.func350,Tryz.ntmps350;go_wp2;go_ret
  refine ⟨?_,rfl⟩
  show Ending.returned (Value.int .u64 (bits .and .u64 ((va:Int) / 4096) 134217727))=_
  have h:va / 4096≤va:=Nat.div_le_self _ _
  have hv:=HV.out
  have e:=qf (va / 4096) 27 134217727 (by decide) rfl (by omega)
  rw [show ((va:Int) / 4096)=((va / 4096:Nat):Int) by omega,e]
  rfl
theorem OM (x k j:Nat) (hx:x<2 ^ (k+j)):x &&& (2 ^ (k+j)-2 ^ k)=x / 2 ^ k*2 ^ k:=by
  have e:2 ^ (k+j)-2 ^ k=2 ^ k*(2 ^ j-1):=by rw [Nat.pow_add,Nat.mul_sub,Nat.mul_one]
  rw [e];have h1:(x &&& 2 ^ k*(2 ^ j-1)) % 2 ^ k=0:=by
    rw [Nat.and_mod_two_pow,Nat.mul_mod_right,Nat.and_zero]
  have h2:(x &&& 2 ^ k*(2 ^ j-1)) / 2 ^ k=x / 2 ^ k:=by
    rw [Nat.and_div_two_pow,Nat.mul_div_cancel_left _ (Nat.two_pow_pos k),Nat.and_two_pow_sub_one_eq_mod];exact Nat.mod_eq_of_lt (Nat.div_lt_of_lt_mul (by rw [← Nat.pow_add];exact hx))
  have h3:=Nat.div_add_mod (x &&& 2 ^ k*(2 ^ j-1)) (2 ^ k)
  rw [h1,h2,Nat.add_zero,Nat.mul_comm] at h3;exact h3.symm
theorem DJ (a b k:Nat) (hb:b<2 ^ k):a*2 ^ k ||| b=a*2 ^ k+b:=by
  rw [Nat.mul_comm,← Nat.two_pow_add_eq_or_of_lt hb]
theorem join_eq (ag va k j S:Nat) (m:Int) (hk:k+j=64) (hS:S=2 ^ k) (hm:m=((2 ^ k-1:Nat):Int)) (hk1:k≤63) (hv:va<18446744073709551616):
    bits .or .u64 (bits .andNot .u64 (IntKind.u64.wrap ((ag:Int)*4096)) m) (bits .and .u64 (va:Int) m)=(((ag*4096 % 18446744073709551616) / S*S+va % S:Nat):Int):=by
  have h1:2 ^ k≤2 ^ 63:=Nat.pow_le_pow_right (by decide) hk1
  have h2:=Nat.two_pow_pos k
  have e1:IntKind.u64.wrap ((ag:Int)*4096)=((ag*4096 % 18446744073709551616:Nat):Int):=by rw [IntKind.wrap_u64];omega
  have hlt:ag*4096 % 18446744073709551616<18446744073709551616:=Nat.mod_lt _ (by decide)
  rw [qf va k m hk1 hm hv,e1,hm];generalize ag * 4096 % 18446744073709551616=x at *;have e2:=u64_andNot_nat x (2 ^ k-1) hlt (by omega)
  rw [e2];have e3:18446744073709551615-(2 ^ k-1)=2 ^ (k+j)-2 ^ k:=by
    rw [hk];omega
  have zU:x<2 ^ (k+j):=by rw [hk];exact hlt
  rw [e3,OM x k j zU];have h4:x / 2 ^ k*2 ^ k≤x:=Nat.div_mul_le_self _ _
  have h5:va % 2 ^ k<2 ^ k:=Nat.mod_lt _ h2
  rw [bits_or_u64_nat _ _ (by omega) (by omega),DJ _ _ _ h5,hS]
def pF (ag va:Nat) (n:Int):Nat:=if gF n then (ag*4096 % 18446744073709551616) / pW n*pW n+va % pW n else 0
theorem Zu (ag va:Nat) (n:Int) (w:World) (hp:ag<18446744073709551616) (hv:va<18446744073709551616):
    Calls Tryz.prog 310 #[.int .u64 ag,.int .u64 va,.int .i64 n] w fun e w'=>e=.returned (.int .u64 ((pF ag va n:Nat):Int))∧w=w':=by
  rcases Bool.eq_false_or_eq_true (gF n) with h1|h1
  · rcases Bu h1 with rfl|rfl|rfl
    all_goals
      have H1:=Yh h1
      have HV:=Yh hv
      have HP:=Yh hp
      clear h1 hv hp;go_enter Tryz.func310,Tryz.ntmps310
      go_wp2_with (first|(go_at_call 264;refine (zk _ _).mono ?_;rintro e w' ⟨rfl,rfl⟩;rw [H1.out])|(go_at_call 338;refine (Zt _ _).mono ?_;rintro e w' ⟨rfl,rfl⟩;first|rw [show ((pW 0:Nat):Int)=4096 from rfl]|rw [show ((pW 1:Nat):Int)=2097152 from rfl]|rw [show ((pW 2:Nat):Int)=1073741824 from rfl]))
      go_ret
      refine ⟨?_,rfl⟩
      first
      | exact congrArg (fun x=>Ending.returned (.int .u64 x)) (join_eq ag va 12 52 4096 4095 rfl rfl rfl (by decide) HV.out)
      | exact congrArg (fun x=>Ending.returned (.int .u64 x)) (join_eq ag va 21 43 2097152 2097151 rfl rfl rfl (by decide) HV.out)
      | exact congrArg (fun x=>Ending.returned (.int .u64 x)) (join_eq ag va 30 34 1073741824 1073741823 rfl rfl rfl (by decide) HV.out)
  · have H1:=Yh h1
    clear h1;go_enter Tryz.func310,Tryz.ntmps310
    go_wp2_with (go_at_call 264;refine (zk _ _).mono ?_;rintro e w' ⟨rfl,rfl⟩;rw [H1.out])
    go_ret
    exact ⟨by rw [pF,H1.out];rfl,rfl⟩
/-! Entries. -/
structure aF where
  v:Bool
  r:Bool
  w:Bool
  x:Bool
  u:Bool
  g:Bool
  a:Bool
  d:Bool
  au:Int
  ag:Int
theorem ED (v r w x u g a d:Bool) (au ag:Int) (W:World):
    Calls Tryz.prog 213 #[.agg #[.bool v,.bool r,.bool w,.bool x,.bool u,.bool g,.bool a,.bool d,.int .i64 au,.int .u64 ag]] W fun e w'=>e=.returned (.bool (r||x))∧Below W.heap.size W w':=by
  cases r
  all_goals
    go_enter Tryz.func213,Tryz.ntmps213;go_wp2;go_ret
    exact ⟨rfl,(Below.refl _ _).alloc (Nat.le_refl _) _⟩
theorem BX (v r w x u g a d:Bool) (au ag:Int) (W:World):
    Calls Tryz.prog 212 #[.agg #[.bool v,.bool r,.bool w,.bool x,.bool u,.bool g,.bool a,.bool d,.int .i64 au,.int .u64 ag]] W fun e w'=>e=.returned (.bool (v&&(r || !w)))∧Below W.heap.size W w':=by
  cases v <;> cases r
  all_goals
    go_enter Tryz.func212,Tryz.ntmps212;go_wp2;go_ret
    exact ⟨rfl,(Below.refl _ _).alloc (Nat.le_refl _) _⟩
theorem Zv (v r w x u g a d:Bool) (au ag:Int) (W:World):
    Calls Tryz.prog 216 #[.agg #[.bool v,.bool r,.bool w,.bool x,.bool u,.bool g,.bool a,.bool d,.int .i64 au,.int .u64 ag]] W fun e w'=>e=.returned (.agg #[.bool v,.bool r,.bool w,.bool x,.bool u,.bool g,.bool a,.bool d])∧Below W.heap.size W w':=by
  go_enter Tryz.func216,Tryz.ntmps216;go_wp2;exact bodyPost_ret (v:=.agg #[.bool v,.bool r,.bool w,.bool x,.bool u,.bool g,.bool a,.bool d]) (by simp [results,Tryz.results216,go_sem]) rfl ⟨rfl,by go_grown⟩
def bt (b:Bool):Nat:=if b then 1 else 0
def jo (v r w x u g a d:Bool) (au ag:Int):Nat:=
  bt v+2*bt r+4*bt w+8*bt x+16*bt u+32*bt g+64*bt a+128*bt d+256*(au % 4).toNat+1024*(ag.toNat % 17592186044416)
def lT (l:List Bool):Nat→Nat
  | 0=>0
  | j+1=>lT l j+2 ^ j*bt (l.getD j false)
theorem OO (l:List Bool):∀ j,lT l j<2 ^ j
  | 0=>by simp [lT]
  | j+1=>by
    have:=OO l j
    have hb:2 ^ j*bt (l.getD j false)≤2 ^ j:=by unfold bt;split <;> simp
    rw [lT,Nat.pow_succ];omega
theorem OP (x i:Nat) (h:x / 2 ^ i % 2=0):x ||| 2 ^ i=x+2 ^ i:=by
  have hp:=Nat.two_pow_pos i
  have h1:(x ||| 2 ^ i) % 2 ^ i=x % 2 ^ i:=by rw [Nat.or_mod_two_pow,Nat.mod_self,Nat.or_zero]
  have h2:(x ||| 2 ^ i) / 2 ^ i=x / 2 ^ i+1:=by
    rw [Nat.or_div_two_pow,Nat.div_self hp];have:=DJ (x / 2 ^ i / 2) 1 1 (by decide)
    rw [show x / 2 ^ i / 2*2 ^ 1=x / 2 ^ i by omega] at this
    exact this
  have h3:=Nat.div_add_mod (x ||| 2 ^ i) (2 ^ i)
  have h4:=Nat.div_add_mod x (2 ^ i)
  rw [h1,h2,Nat.mul_add] at h3;omega
def kW (au ag:Int):Nat:=256*(au % 4).toNat+1024*(ag.toNat % 17592186044416)
theorem Zw (au ag:Int):kW au ag<18014398509481984:=by unfold kW;omega
theorem Zx (n:Int):bits .and .i64 n 3=n % 4:=by
  show IntKind.i64.wrap ((BitVec.ofInt 64 n &&& BitVec.ofInt 64 3).toNat:Int)=n % 4
  have e:(BitVec.ofInt 64 n &&& BitVec.ofInt 64 3).toNat=(n % 18446744073709551616).toNat % 4:=by
    rw [BitVec.toNat_and,show (BitVec.ofInt 64 3).toNat=2 ^ 2-1 from rfl,Nat.and_two_pow_sub_one_eq_mod,BitVec.toNat_ofInt]
    rfl
  rw [e,IntKind.wrap_i64];omega
theorem Zy (au ag:Int) (hp:0≤ag∧ag<18446744073709551616):
    bits .or .u64 (IntKind.u64.wrap (bits .and .u64 ag 17592186044415*1024)) (IntKind.u64.wrap (IntKind.u64.wrap (bits .and .i64 au 3)*256))=((kW au ag:Nat):Int):=by
  obtain ⟨P,rfl⟩:=Int.eq_ofNat_of_zero_le hp.1
  rw [qf P 44 17592186044415 (by decide) rfl (by omega),Zx]
  have hP:P % 2 ^ 44<17592186044416:=Nat.mod_lt _ (by decide)
  unfold kW;rw [show (P:Int).toNat=P from rfl,show (17592186044416:Nat)=2 ^ 44 from rfl];generalize P % 2 ^ 44=q at *;rw [IntWalk.u64_in ((q:Int)*1024) (by omega),IntWalk.u64_in (au % 4) (by omega),IntWalk.u64_in (au % 4*256) (by omega)]
  have e1:(q:Int)*1024=((q*2 ^ 10:Nat):Int):=by omega
  have e2:au % 4*256=((256*(au % 4).toNat:Nat):Int):=by omega
  rw [e1,e2,bits_or_u64_nat _ _ (by omega) (by omega),DJ q _ 10 (by omega)]
  omega
theorem Zz (l:List Bool) (au ag:Int) (j:Nat) (hj:j<8) (hb:l.getD j false=true):
    bits .or .u64 ((kW au ag+lT l j:Nat):Int) ((2 ^ j:Nat):Int)=((kW au ag+lT l (j+1):Nat):Int):=by
  have h1:=OO l j
  have h2:=Zw au ag
  have h3:2 ^ j≤2 ^ 7:=Nat.pow_le_pow_right (by decide) (by omega)
  have h4:kW au ag % 2 ^ (j+1)=0:=by
    have:kW au ag % 256=0:=by unfold kW;omega
    refine Nat.mod_eq_zero_of_dvd (Nat.dvd_trans (Nat.pow_dvd_pow 2 (show j+1≤8 by omega)) (Nat.dvd_of_mod_eq_zero this))
  have h5:(kW au ag+lT l j) / 2 ^ j % 2=0:=by
    obtain ⟨k,hk⟩:=Nat.dvd_of_mod_eq_zero h4
    rw [hk,Nat.pow_succ,Nat.mul_assoc,Nat.mul_add_div (Nat.two_pow_pos j),Nat.div_eq_of_lt h1];omega
  rw [bits_or_u64_nat _ _ (by omega) (by omega),OP _ _ h5]
  simp only [lT,hb,bt,if_true]
  omega
theorem ZA (l:List Bool) (au ag:Int) (j:Nat) (hj:j<8) (hb:l.getD j false=true):
    bits .or .u64 (((kW au ag:Nat):Int)+((lT l j:Nat):Int)) (IntKind.u64.wrap ((2:Int) ^ j))=((kW au ag+lT l (j+1):Nat):Int):=by
  have h3:2 ^ j≤2 ^ 7:=Nat.pow_le_pow_right (by decide) (by omega)
  rw [← Zz l au ag j hj hb];have e:(2:Int) ^ j=((2 ^ j:Nat):Int):=by simp
  rw [e];generalize 2 ^ j=P at *;rw [IntWalk.u64_in _ (by omega),Int.natCast_add]
theorem ZB (l:List Bool) (au ag:Int) (j:Nat) (hb:l.getD j false=false):kW au ag+lT l (j+1)=kW au ag+lT l j:=by
  rw [lT,hb];simp [bt]
theorem ZC (v r w x u g a d:Bool) (au ag:Int):kW au ag+lT [v,r,w,x,u,g,a,d] 8=jo v r w x u g a d au ag:=by
  simp [lT,jo,kW]
  omega
theorem BV (v r w x u g a d:Bool) (au ag:Int) (W:World) (hp:0≤ag∧ag<18446744073709551616):
    Calls Tryz.prog 169 #[.agg #[.bool v,.bool r,.bool w,.bool x,.bool u,.bool g,.bool a,.bool d,.int .i64 au,.int .u64 ag]] W fun e w'=>e=.returned (.int .u64 ((jo v r w x u g a d au ag:Nat):Int))∧Below W.heap.size W w':=by
  have HP:=Yh hp
  clear hp;go_enter Tryz.func169,Tryz.ntmps169
  go_wp2_with (go_at_call 216;refine (Zv _ _ _ _ _ _ _ _ _ _ _).mono ?_;rintro e w1 ⟨rfl,hb⟩)
  go_loop [3,18] (fun x' i=>∃ j:Nat,j≤8∧i=.int .i64 j∧x'=.int .u64 ((kW au ag+lT [v,r,w,x,u,g,a,d] j:Nat):Int)) (fun _ i=>(8-intOf i).toNat)
  case atStart=>exact ⟨0,by omega,rfl,by rw [Zy au ag HP.out];rfl⟩
  case round =>
    obtain ⟨j,hj,rfl,rfl⟩:=hrel
    by_cases h0:j<8
    · have hidx:∀ W',(Instr.index 374 (.agg #[.bool v,.bool r,.bool w,.bool x,.bool u,.bool g,.bool a,.bool d]) (.int .i64 (j:Int))).run Tryz.prog W'=.ok (.bool ([v,r,w,x,u,g,a,d].getD j false)) W':=by
        intro W';rcases (show j=0∨j=1∨j=2∨j=3∨j=4∨j=5∨j=6∨j=7 by omega) with rfl|rfl|rfl|rfl|rfl|rfl|rfl|rfl <;> kernel_rfl
      have hr:[v,r,w,x,u,g,a,d].getD j false=true→_:=ZA [v,r,w,x,u,g,a,d] au ag j h0
      have hs:=ZB [v,r,w,x,u,g,a,d] au ag j
      have HR:=Yh hr
      have HS:=Yh hs
      clear hr hs
      cases hbb:[v,r,w,x,u,g,a,d].getD j false with
      | false =>
        rw [hbb] at hidx;have HB:=Yh hbb
        clear hbb;go_wp2;exact ⟨⟨j+1,by omega,by go_num,by rw [HS.out HB.out]⟩,by simp [intOf];omega⟩
      | true =>
        rw [hbb] at hidx;have HB:=Yh hbb
        clear hbb;go_wp2;exact ⟨⟨j+1,by omega,by go_num,by rw [HR.out HB.out]⟩,by simp [intOf];omega⟩
    · obtain rfl:j=8:=by omega
      go_wp2;go_ret
      exact ⟨by rw [← ZC,Int.natCast_add];rfl,((Below.refl _ _).alloc (Nat.le_refl _) _).trans (hb.mono (by simp))⟩
theorem ZE (x:Nat) (i:Int) (p:Addr) (W:World) (hx:x<18446744073709551616) (hi:0≤i) (hi2:i≤7) (hc:W.cell? p=some (.int .u64 (x:Int))):
    Calls Tryz.prog 263 #[.int .i64 i,.pointer (some p)] W fun e w'=>e=.returned (.bool (x / 2 ^ i.toNat % 2==1))∧W=w':=by
  go_enter Tryz.func263,Tryz.ntmps263;go_wp2;go_ret
  refine ⟨congrArg (fun b=>Ending.returned (.bool b)) ?_,rfl⟩
  show (bits .and .u64 ((x:Int) / 2 ^ i.toNat) 1==1)=_
  have h:x / 2 ^ i.toNat≤x:=Nat.div_le_self _ _
  have e:((x:Int) / 2 ^ i.toNat)=((x / 2 ^ i.toNat:Nat):Int):=by simp
  rw [e];generalize x / 2 ^ i.toNat=y at *;rw [qf y 1 1 (by decide) rfl (by omega),show (2:Nat) ^ 1=2 from rfl]
  rcases Nat.mod_two_eq_zero_or_one y with hy|hy <;> rw [hy] <;> rfl
def af (x i:Nat):Bool:=x / 2 ^ i % 2==1
def qd (x:Nat):Value:=.agg #[.bool (af x 0),.bool (af x 1),.bool (af x 2),.bool (af x 3),.bool (af x 4),.bool (af x 5),.bool (af x 6),.bool (af x 7),.int .i64 ((x / 256 % 4:Nat):Int),.int .u64 ((x / 1024 % 17592186044416:Nat):Int)]
theorem ZF (x:Nat) (hx:x<18446744073709551616):wrap64 (bits .and .u64 ((x:Int) / 256) 3)=((x / 256 % 4:Nat):Int):=by
  have e:((x:Int) / 256)=((x / 256:Nat):Int):=by omega
  rw [e,qf (x / 256) 2 3 (by decide) rfl (by omega),IntWalk.wrap64_in _ (by omega)]
theorem ZG (x:Nat) (hx:x<18446744073709551616):bits .and .u64 (x:Int) 18014398509481983 / 1024=((x / 1024 % 17592186044416:Nat):Int):=by
  rw [qf x 54 18014398509481983 (by decide) rfl hx]
  omega
theorem ok_eq (x:Nat) (hx:x<18446744073709551616):(bits .andNot .u64 (x:Int) 18014398509481983==0)=(x / 18014398509481984==0):=by
  have h:=u64_andNot_nat x (2 ^ 54-1) hx (by decide)
  rw [show ((2 ^ 54-1:Nat):Int)=18014398509481983 from rfl,show 18446744073709551615-(2 ^ 54-1)=2 ^ (54+10)-2 ^ 54 from rfl,OM x 54 10 hx] at h;rw [h,show (2:Nat) ^ 54=18014398509481984 from rfl,Bool.eq_iff_iff];simp only [beq_iff_eq]
  omega
theorem entry_eq (x:Nat) (hx:x<18446744073709551616):Value.agg #[.bool (x % 2==1),.bool (x / 2 % 2==1),.bool (x / 4 % 2==1),.bool (x / 8 % 2==1),.bool (x / 16 % 2==1),.bool (x / 32 % 2==1),.bool (x / 64 % 2==1),.bool (x / 128 % 2==1),.int .i64 (wrap64 (bits .and .u64 ((x:Int) / 256) 3)),.int .u64 (bits .and .u64 (x:Int) 18014398509481983 / 1024)]=qd x:=by
  rw [ZF x hx,ZG x hx];simp [qd,af]
theorem three (x:Nat) (W:World):∃ W3,W3=((W.alloc (.cells #[.int .u64 (x:Int)] 40)).alloc (.cells #[.bool false,.bool false,.bool false,.bool false,.bool false,.bool false,.bool false,.bool false,.int .i64 0,.int .u64 0] 268)).alloc (.cells #[.bool (x % 2==1),.bool (x / 2 % 2==1),.bool (x / 4 % 2==1),.bool (x / 8 % 2==1),.bool (x / 16 % 2==1),.bool (x / 32 % 2==1),.bool (x / 64 % 2==1),.bool (x / 128 % 2==1),.int .i64 (wrap64 (bits .and .u64 ((x:Int) / 256) 3)),.int .u64 (bits .and .u64 (x:Int) 18014398509481983 / 1024)] 268)∧Below W.heap.size W W3∧W3.cell? ⟨W.heap.size,0,none⟩=some (.int .u64 (x:Int))∧W3.heap.size=W.heap.size+1+1+1∧W3.cell? ⟨W.heap.size+1+1,0,none⟩=some (.bool (x % 2==1))∧W3.cell? ⟨W.heap.size+1+1,1,none⟩=some (.bool (x / 2 % 2==1))∧W3.cell? ⟨W.heap.size+1+1,2,none⟩=some (.bool (x / 4 % 2==1))∧W3.cell? ⟨W.heap.size+1+1,3,none⟩=some (.bool (x / 8 % 2==1))∧W3.cell? ⟨W.heap.size+1+1,4,none⟩=some (.bool (x / 16 % 2==1))∧W3.cell? ⟨W.heap.size+1+1,5,none⟩=some (.bool (x / 32 % 2==1))∧W3.cell? ⟨W.heap.size+1+1,6,none⟩=some (.bool (x / 64 % 2==1))∧W3.cell? ⟨W.heap.size+1+1,7,none⟩=some (.bool (x / 128 % 2==1))∧W3.cell? ⟨W.heap.size+1+1,8,none⟩=some (.int .i64 (wrap64 (bits .and .u64 ((x:Int) / 256) 3)))∧W3.cell? ⟨W.heap.size+1+1,9,none⟩=some (.int .u64 (bits .and .u64 (x:Int) 18014398509481983 / 1024))∧W3.cell? ⟨W.heap.size+1,0,none⟩=some (.bool false)∧W3.cell? ⟨W.heap.size+1,1,none⟩=some (.bool false)∧W3.cell? ⟨W.heap.size+1,2,none⟩=some (.bool false)∧W3.cell? ⟨W.heap.size+1,3,none⟩=some (.bool false)∧W3.cell? ⟨W.heap.size+1,4,none⟩=some (.bool false)∧W3.cell? ⟨W.heap.size+1,5,none⟩=some (.bool false)∧W3.cell? ⟨W.heap.size+1,6,none⟩=some (.bool false)∧W3.cell? ⟨W.heap.size+1,7,none⟩=some (.bool false)∧W3.cell? ⟨W.heap.size+1,8,none⟩=some (.int .i64 0)∧W3.cell? ⟨W.heap.size+1,9,none⟩=some (.int .u64 0)∧(∀ i,W3.frozen? ⟨W.heap.size+1,i,none⟩=false):=by
  refine ⟨_,rfl,by go_grown,?_⟩
  simp [go_sem]
theorem ZH {g i:Nat} {w w':World} {v:Value} (h:bO g w w'):bO g w (w'.setCell ⟨g,i,none⟩ v):=fun p hp=>by
  rw [World.cell?_setCell_other _ _ _ _ (by rintro rfl;exact hp rfl)];exact h p hp
theorem ZI {g:Nat} {w w':World} (h:bO g w w'):bO g w.drew w'.drew:=h
theorem zH (x:Nat) (W:World) (hx:x<18446744073709551616):
    Calls Tryz.prog 211 #[.int .u64 (x:Int)] W fun e w'=>e=.returned (.tuple #[qd x,.bool (x / 18014398509481984==0)])∧Below W.heap.size W w':=by
  have HX:=Yh hx
  clear hx;have h3:=three x W
  have H3:=Yh h3
  clear h3;go_enter Tryz.func211,Tryz.ntmps211
  go_wp2_with (go_at_call 263;refine (ZE x _ _ _ HX.out (by decide) (by decide) (by simp)).mono ?_;rintro e w' ⟨rfl,rfl⟩)
  obtain ⟨W3,hW3,hb,hcx,hsz,hc0,hc1,hc2,hc3,hc4,ru,hc6,ry,hc8,rY,hz0,hz1,hz2,hz3,gq,gu,gy,gz,gB,gD,hfz⟩:=H3.out
  rw [← hW3];clear hW3 H3;have HB:=Yh hb
  clear hb;have hs0:=fun W' (h:bO (W.heap.size+1) W3.drew W')=>(h ⟨W.heap.size+1+1,0,none⟩ (by simp)).trans hc0
  have hs1:=fun W' (h:bO (W.heap.size+1) W3.drew W')=>(h ⟨W.heap.size+1+1,1,none⟩ (by simp)).trans hc1
  have hs2:=fun W' (h:bO (W.heap.size+1) W3.drew W')=>(h ⟨W.heap.size+1+1,2,none⟩ (by simp)).trans hc2
  have hs3:=fun W' (h:bO (W.heap.size+1) W3.drew W')=>(h ⟨W.heap.size+1+1,3,none⟩ (by simp)).trans hc3
  have hs4:=fun W' (h:bO (W.heap.size+1) W3.drew W')=>(h ⟨W.heap.size+1+1,4,none⟩ (by simp)).trans hc4
  have hs5:=fun W' (h:bO (W.heap.size+1) W3.drew W')=>(h ⟨W.heap.size+1+1,5,none⟩ (by simp)).trans ru
  have hs6:=fun W' (h:bO (W.heap.size+1) W3.drew W')=>(h ⟨W.heap.size+1+1,6,none⟩ (by simp)).trans hc6
  have hs7:=fun W' (h:bO (W.heap.size+1) W3.drew W')=>(h ⟨W.heap.size+1+1,7,none⟩ (by simp)).trans ry
  have ZJ:=fun W' (h:bO (W.heap.size+1) W3.drew W')=>(h ⟨W.heap.size+1+1,8,none⟩ (by simp)).trans hc8
  have ZK:=fun W' (h:bO (W.heap.size+1) W3.drew W')=>(h ⟨W.heap.size+1+1,9,none⟩ (by simp)).trans rY
  have hsx:=fun W' (h:bO (W.heap.size+1) W3.drew W')=>(h ⟨W.heap.size,0,none⟩ (by simp)).trans hcx
  refine wp_region_plan_by (bO (W.heap.size+1)) (bI _) [(0,false),(1,false),(2,false),(3,false),(4,true),(5,false)] (by kernel_rfl) (by kernel_rfl) (fun _ d _ _ _ h=>by cases d <;> exact h) ?_
  iterate 4 (refine plan_take (v:=?_) rfl (by kernel_rfl) ?_ ?_;rotate_left;(focus (intro w' hw';try go_simp;try with_reducible rfl));simp only [Act.put,pa1,pa2,pa3])
  refine plan_turn rfl (by kernel_rfl) (fun K hK=>?_)
  go_simp
  refine hK _ _ ⟨ZI (by repeat (first|(with_reducible exact (bI _).refl _)|(with_reducible refine ZH ?_))),?_⟩
  iterate 1 (refine plan_take (v:=?_) rfl (by kernel_rfl) ?_ ?_;rotate_left;(focus (intro w' hw';try go_simp;try with_reducible rfl));simp only [Act.put,pa1,pa2,pa3])
  refine aG ?_
  clear hs0 hs1 hs2 hs3 hs4 hs5 hs6 hs7 ZJ ZK hsx hc0 hc1 hc2 hc3 hc4 ru hc6 ry hc8 rY hcx;go_wp2;refine bodyPost_ret (v:=.tuple #[.agg #[.bool (x % 2==1),.bool (x / 2 % 2==1),.bool (x / 4 % 2==1),.bool (x / 8 % 2==1),.bool (x / 16 % 2==1),.bool (x / 32 % 2==1),.bool (x / 64 % 2==1),.bool (x / 128 % 2==1),.int .i64 (wrap64 (bits .and .u64 ((x:Int) / 256) 3)),.int .u64 (bits .and .u64 (x:Int) 18014398509481983 / 1024)],.bool (bits .andNot .u64 (x:Int) 18014398509481983==0)]) (by simp [results,Tryz.results211,go_sem,hz0,hz1,hz2,hz3,gq,gu,gy,gz,gB,gD]) rfl ⟨?_,?_⟩
  · rw [entry_eq x HX.out,ok_eq x HX.out]
  · have hB:=HB.out
    refine Below.drew ?_
    repeat (first|(with_reducible exact hB)|(with_reducible refine Below.setCell ?_ (by simp) _))
theorem OQ (x:Nat) (hx:x<18446744073709551616):wrap64 (bits .and .u64 ((x:Int) / 17592186044416) 65535)=((x / 17592186044416 % 65536:Nat):Int):=by
  have e:((x:Int) / 17592186044416)=((x / 17592186044416:Nat):Int):=by omega
  rw [e,qf (x / 17592186044416) 16 65535 (by decide) rfl (by omega),IntWalk.wrap64_in _ (by omega)]
theorem OT (x:Nat) (hx:x<18446744073709551616):bits .and .u64 (x:Int) 17592186044415=((x % 17592186044416:Nat):Int):=qf x 44 17592186044415 (by decide) rfl hx
theorem ZL (x:Nat) (b:Bool) (W:World) (hx:x<18446744073709551616) (h:(b=false∧x / 1152921504606846976=0)∨(b=true∧x / 1152921504606846976=8)):
    Calls Tryz.prog 125 #[.int .u64 (x:Int)] W fun e w'=>e=.returned (.tuple #[.agg #[.bool b,.int .i64 ((x / 17592186044416 % 65536:Nat):Int),.int .u64 ((x % 17592186044416:Nat):Int)],.bool true])∧Below W.heap.size W w':=by
  have HX:=Yh hx
  rcases h with ⟨rfl,h⟩|⟨rfl,h⟩
  · have e1:((x:Int) / 1152921504606846976)=((x / 1152921504606846976:Nat):Int):=by omega
    rw [h] at e1;clear h hx;go_enter Tryz.func125,Tryz.ntmps125;go_wp2;refine bodyPost_ret (v:=.tuple #[.agg #[.bool false,.int .i64 (wrap64 (bits .and .u64 ((x:Int) / 17592186044416) 65535)),.int .u64 (bits .and .u64 (x:Int) 17592186044415)],.bool true]) (by simp [results,Tryz.results125,go_sem]) rfl ⟨?_,by go_grown⟩
    rw [OQ x HX.out,OT x HX.out]
  · have e1:((x:Int) / 1152921504606846976)=((x / 1152921504606846976:Nat):Int):=by omega
    rw [h] at e1;clear h hx;go_enter Tryz.func125,Tryz.ntmps125;go_wp2;refine bodyPost_ret (v:=.tuple #[.agg #[.bool true,.int .i64 (wrap64 (bits .and .u64 ((x:Int) / 17592186044416) 65535)),.int .u64 (bits .and .u64 (x:Int) 17592186044415)],.bool true]) (by simp [results,Tryz.results125,go_sem]) rfl ⟨?_,by go_grown⟩
    rw [OQ x HX.out,OT x HX.out]
theorem ZM (x:Nat) (W:World) (h0:x / 1152921504606846976≠0) (h8:x / 1152921504606846976≠8):
    Calls Tryz.prog 125 #[.int .u64 (x:Int)] W fun e w'=>e=.returned (.tuple #[.agg #[.bool false,.int .i64 0,.int .u64 0],.bool false])∧Below W.heap.size W w':=by
  have n0:(((x:Int) / 1152921504606846976) != 0)=true:=by rw [bne_iff_ne];omega
  have n8:(((x:Int) / 1152921504606846976) != 8)=true:=by rw [bne_iff_ne];omega
  clear h0 h8;go_enter Tryz.func125,Tryz.ntmps125;go_wp2;exact bodyPost_ret (v:=.tuple #[.agg #[.bool false,.int .i64 0,.int .u64 0],.bool false]) (by simp [results,Tryz.results125,go_sem]) rfl ⟨rfl,by go_grown⟩
end Go.Proofs.YtnebdlchogmneaaGreatDoor
namespace Go.Proofs.YtnebdlchogmneaaGreatDoor
open Go.RowKit
theorem bt_le (b:Bool):bt b≤1:=by cases b <;> decide
end Go.Proofs.YtnebdlchogmneaaGreatDoor
