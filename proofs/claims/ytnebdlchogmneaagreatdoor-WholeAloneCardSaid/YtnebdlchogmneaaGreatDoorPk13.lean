/- Texts of the proof: Grp, AsA, CoA, CoB, IsaA, PgA, PgB, PgC, PgD, PgE. -/
import Derived.Test.YtnebdlchogmneaaGreatDoorPk12
import Derived.StringKeys
import Derived.Test.YtnebdlchogmneaaGreatDoorPk3
import Derived.Test.YtnebdlchogmneaaGreatDoorPk2
import Derived.Test.YtnebdlchogmneaaGreatDoorPk1
import Derived.LoopN
set_option maxHeartbeats 8000000
set_option linter.unusedVariables false
set_option linter.unusedSimpArgs false
namespace Go.Proofs.YtnebdlchogmneaaGreatDoor
open Go.RowKit Go.Maps
def o5:List Oj→Oj
  | []=>qx
  | A::xs=>Fh A (o5 xs)
section
variable {W w:World}
theorem aa.nR {os:List Oj} (h:aa W os w):aa W (qx::os) w:=h.add (F:=fun _=>False) (Below.refl _ _) (fun _ h=>h) (fun _ h=>h.elim)
theorem aa.vY:∀ {xs bs:List Oj},aa W (o5 xs::bs) w→aa W (xs++bs) w
  | [],_,h=>h.drop 1
  | A::xs,bs,h=>by
    have h2:aa W (o5 xs::(bs++[A])) w:=aa.bG (xs:=[A]) (bs:=o5 xs::bs) (aa.split h)
    have h3:=aa.vY (xs:=xs) (bs:=bs++[A]) h2
    rw [← List.append_assoc] at h3;exact aa.bG (xs:=xs++bs) (bs:=[A]) h3
theorem aa.xY:∀ {xs bs:List Oj},aa W (xs++bs) w→aa W (o5 xs::bs) w
  | [],_,h=>h.nR
  | A::xs,bs,h=>by
    have h2:aa W ((xs++bs)++[A]) w:=aa.bG (xs:=[A]) (bs:=xs++bs) h
    rw [List.append_assoc] at h2;have h3:=aa.xY (xs:=xs) (bs:=bs++[A]) h2
    exact aa.join (aa.bG (xs:=o5 xs::bs) (bs:=[A]) h3)
theorem Kj {α:Type} (f:Nat→α) {n i:Nat} (h:i<n):(List.range n).map f=(List.range i).map f++f i::(List.range (n-i-1)).map (fun j=>f (j+i+1)):=by
  apply List.ext_getElem?
  intro k;rw [List.getElem?_map];rcases Nat.lt_trichotomy k i with hk|hk|hk
  · rw [List.getElem?_append_left (by simpa using hk),List.getElem?_map,List.getElem?_range (by omega),List.getElem?_range hk]
  · subst hk
    rw [List.getElem?_append_right (by simp),List.getElem?_range h]
    simp
  · rw [List.getElem?_append_right (by simp;omega)]
    simp only [List.length_map,List.length_range]
    obtain ⟨m,rfl⟩:∃ m,k=i+1+m:=⟨k-i-1,by omega⟩
    rw [show i+1+m-i=m+1 by omega,List.getElem?_cons_succ,List.getElem?_map]
    by_cases hn:i+1+m<n
    · rw [List.getElem?_range hn,List.getElem?_range (by omega)]
      simp only [Option.map_some]
      rw [show m+i+1=i+1+m by omega]
    · rw [List.getElem?_eq_none (by simp;omega),List.getElem?_eq_none (by simp;omega)]
      rfl
def rE (f:Nat→Oj) (i:Nat) (A:Oj):Nat→Oj:=fun j=>if j=i then A else f j
def others (f:Nat→Oj) (n i:Nat) (bs:List Oj):List Oj:=((List.range (n-i-1)).map (fun j=>f (j+i+1))++bs)++(List.range i).map f
theorem aa.oneOf {f:Nat→Oj} {n i:Nat} {bs:List Oj} (h:aa W ((List.range n).map f++bs) w) (hi:i<n):aa W (f i::others f n i bs) w:=by
  rw [Kj f hi,List.append_assoc] at h;exact aa.bG (xs:=(List.range i).map f) (bs:=f i::((List.range (n-i-1)).map (fun j=>f (j+i+1))++bs)) h
theorem aa.RB {f:Nat→Oj} {n i:Nat} {A:Oj} {bs:List Oj} (h:aa W (A::others f n i bs) w) (hi:i<n):aa W ((List.range n).map (rE f i A)++bs) w:=by
  rw [Kj (rE f i A) hi,List.append_assoc];have e1:(List.range i).map (rE f i A)=(List.range i).map f:=List.map_congr_left fun j hj=>by
    unfold rE;rw [if_neg (by have:=List.mem_range.1 hj;omega)]
  have e2:(List.range (n-i-1)).map (fun j=>rE f i A (j+i+1))=(List.range (n-i-1)).map (fun j=>f (j+i+1)):=List.map_congr_left fun j _=>by
    unfold rE;rw [if_neg (by omega)]
  have e3:rE f i A i=A:=by unfold rE;rw [if_pos rfl]
  rw [e1,e2,e3];exact aa.bG (xs:=A::((List.range (n-i-1)).map (fun j=>f (j+i+1))++bs)) (bs:=(List.range i).map f) h
end
def qy (v:Value):Option (DataW Value × List MemPlace):=some (.held v,[])
def jX (q:IntKind) (kt:TypeId) (z:Value) (w:World) (b n:Nat) (f:Nat→Option Value):Prop:=∃ D:DataW Value,w.ownsMap Tryz.prog kt qy b n D∧Maps.size D=n ∧
  ∀ k:Nat,(Lit.int q (k:Int)).wf=true→D.atKey (.int q (k:Int)) (.held z)=.held ((f k).getD z)∧Maps.has D (.int q (k:Int))=(f k).isSome
def jY (f:Nat→Option Value) (k:Nat) (v:Option Value):Nat→Option Value:=fun j=>if j=k then v else f j
section
variable {q:IntKind} {kt et mt:TypeId} {z:Value} {w w':World} {b n:Nat} {f:Nat→Option Value}
theorem jX.lt (h:jX q kt z w b n f):b<w.heap.size:=by
  obtain ⟨D,h,_⟩:=h;exact h.lt
theorem az.Kk {H:Type} {F:Nat→Prop} {P:Program} {k:TypeId} {R:Value→Option (DataW H × List MemPlace)} {D:DataW H} (h:az F w w') (ho:w.ownsMap P k R b n D) (hb:¬ F b):w'.ownsMap P k R b n D:=by
  have hlt:=ho.lt
  obtain ⟨es,clock,hh,r⟩:=ho
  exact ⟨es,clock,(h.block b hlt hb).trans hh,r⟩
theorem jX.keeps {F:Nat→Prop} (h:jX q kt z w b n f) (hg:az F w w') (hne:¬ F b):jX q kt z w' b n f:=by
  obtain ⟨D,h,r⟩:=h;exact ⟨D,hg.Kk h hne,r⟩
theorem jX.new (w:World):jX q kt z (w.alloc (.map #[] 0)) w.heap.size 0 (fun _=>none):=
  ⟨.map [],World.ownsMap_made _ _ _ _,rfl,fun f _=>⟨by simp [DataW.atKey],by simp [Maps.has]⟩⟩
theorem Fj {v u:Value} {ps:List MemPlace} (h:qy v=some (.held u,ps)):v=u:=by
  unfold qy at h;have e:=congrArg (fun o=>o.map Prod.fst) h
  simp only [Option.map_some,Option.some.injEq,DataW.held.injEq] at e
  exact e
theorem jX.look (h:jX q kt z w b n f) (hq:Tryz.prog.underlying kt=some (.int q)) (hm:Tryz.prog.underlying mt=some (.map kt et)) (hz:(zeroValue et).run Tryz.prog w=.ok z w) {k:Nat} (hk:(Lit.int q (k:Int)).wf=true):
    (Instr.lookup mt (.map (some b)) (.int q (k:Int)) false).run Tryz.prog w=.ok ((f k).getD z) w:=by
  obtain ⟨D,h,_,hD⟩:=h
  obtain ⟨v,ps,hrun,hv⟩:=h.lookup (int_keyed hq) hm hz (show qy z=some (.held z,[]) from rfl) (keyOf_int_mk hq hk)
  rw [(hD k hk).1] at hv;rw [hrun,Fj hv]
theorem Kl {D:DataW Value} (h:w.ownsMap Tryz.prog kt qy b n D):w.ownsMap Tryz.prog kt qy b (Maps.size D) D:=by
  obtain ⟨es,clock,hb,F,hs,rfl⟩:=h
  exact ⟨es,clock,hb,F,by simp [Maps.size,length_sorted],rfl⟩
theorem Km (q:IntKind) (f:Int):WideAt.IsKeyLit (.int q f):=by simp [WideAt.IsKeyLit]
theorem jX.put (h:jX q kt z w b n f) (hq:Tryz.prog.underlying kt=some (.int q)) (hm:Tryz.prog.underlying mt=some (.map kt et)) {k:Nat} (x:Value) (hk:(Lit.int q (k:Int)).wf=true) (hn:n<maxLen):
    ∃ w',(Instr.mapUpdate mt (.map (some b)) (.int q (k:Int)) x).run Tryz.prog w=.ok () w'∧jX q kt z w' b (if (f k).isSome then n else n+1) (jY f k (some x))∧w.grownBy w' (some b):=by
  obtain ⟨D,h,hs,hD⟩:=h
  obtain ⟨w',hrun,h',hg⟩:=h.update (int_keyed hq) hm hn (keyOf_int_mk hq hk) (show qy x=some (.held x,[]) from rfl)
  have hsz:Maps.size (D.put (.int q (k:Int)) (.held x))=if (f k).isSome then n else n+1:=by
    rw [Maps.size_put (h.tidy (int_keyed hq)),(hD k hk).2,hs]
  refine ⟨w',hrun,⟨_,by rw [← hsz];exact Kl h',hsz,fun g hg'=>?_⟩,hg⟩
  unfold jY;by_cases e:g=k
  · subst e
    rw [Maps.atKey_put_same h.isMap (Km _ _),Maps.has_put_same h.isMap (Km _ _)];simp
  · have hne:(Lit.int q (g:Int)) ≠ .int q (k:Int):=by intro h;injection h with _ h;exact e (by omega)
    rw [Maps.atKey_put_other hne,Maps.has_put_other hne,(hD g hg').1,(hD g hg').2];simp [e]
end
def mq (q:IntKind) (kt:TypeId) (z:Value) (b n:Nat) (f:Nat→Option Value):Oj where
  At w F:=jX q kt z w b n f∧∀ x,F x↔x=b
  keeps:=fun ⟨h1,h2⟩ k hd=>⟨h1.keeps k (hd _ ((h2 _).2 rfl)),h2⟩
  lt:=fun ⟨h1,h2⟩ hb=>by rw [(h2 _).1 hb];exact h1.lt
section
variable {W w w':World} {os:List Oj} {q:IntKind} {kt:TypeId} {z:Value} {b n n':Nat} {f f':Nat→Option Value}
theorem aa.Fp (h:aa W os w) (i:Nat) (hi:os[i]? = some (mq q kt z b n f)):jX q kt z w b n f:=by
  obtain ⟨F,h1,_⟩:=h.get i _ hi
  exact h1
theorem aa.RD (h:aa W os w) (i:Nat) (hi:os[i]? = some (mq q kt z b n f)) (hm:jX q kt z w' b n' f') (hg:w.grownBy w' (some b)):aa W (os.set i (mq q kt z b n' f')) w'∧Below W.heap.size w w':=by
  obtain ⟨Fs,h1,h2,h3,h4⟩:=h.ex
  obtain ⟨F,hF⟩:=o6 h1 hi
  have hA:=h2 i _ F hi hF
  exact h.turned i (O':=mq q kt z b n' f') (F:=F) (F':=F) h1 h2 h3 h4 hF ⟨hm,hA.2⟩ (fun b hb=>.inl hb) ⟨hg.os,hg.tape,hg.output,hg.size,fun j hj hne=>hg.block j hj (fun e=>hne ((hA.2 j).2 (by cases e;rfl)))⟩
theorem aa.Kn (h:aa W os w) (q:IntKind) (kt:TypeId) (z:Value):aa W (mq q kt z w.heap.size 0 (fun _=>none)::os) (w.alloc (.map #[] 0)):=
  h.add (F:=fun x=>x=w.heap.size) ((Below.refl _ _).alloc (Nat.le_refl _) _) ⟨jX.new w,fun _=>Iff.rfl⟩ (fun b e=>by rw [e];exact Nat.le_refl _)
end
section
variable {ops:Array Oper} {rest:List Oper} {o:Oper} {a:Act} {Q:Exit→Act→World→Prop}
theorem RF (w:World) (hg:o.guard=none) (m x v:Operand) (mt et kt:TypeId) (q:IntKind) (z:Value) (hop:o.op=Op.mapUpdate mt m x v) (hq:Tryz.prog.underlying kt=some (.int q)) (hmt:Tryz.prog.underlying mt=some (.map kt et)) (b n:Nat) (f:Nat→Option Value) (k:Nat) (y:Value)
    (hm:a.eval m=.map (some b)) (hx:a.eval x=.int q (k:Int)) (hv:a.eval v=y) (h:jX q kt z w b n f) (hk:(Lit.int q (k:Int)).wf=true) (hmax:n<maxLen)
    (hK:∀ w',jX q kt z w' b (if (f k).isSome then n else n+1) (jY f k (some y))→w.grownBy w' (some b)→wpList Tryz.prog ops Q rest (a.put o.dst undef) w'):wpList Tryz.prog ops Q (o::rest) a w:=by
  refine wpList_plain hg fun K' hK'=>?_
  obtain ⟨w',hrun,r1,r2⟩:=h.put hq hmt y hk hmax
  unfold Oper.wp;simp [execOp,hop,hm,hx,hv,hrun,Result.andThen]
  exact hK' _ _ (hK w' r1 r2)
end
def Af {α:Type} (f:α→Oj):Oj where
  At w F:=∃ a,(f a).At w F
  keeps:=fun ⟨a,h⟩ k hd=>⟨a,(f a).keeps h k hd⟩
  lt:=fun ⟨a,h⟩ hb=>(f a).lt h hb
section
variable {W w w':World} {os:List Oj} {α:Type} {f:α→Oj}
theorem aa.open_ (h:aa W (Af f::os) w):∃ a,aa W (f a::os) w:=by
  obtain ⟨Fs,h1,h2,h3,h4⟩:=h.ex
  match Fs,h1,h2,h3,h4 with
  | F0::Fs,h1,h2,h3,h4 =>
    obtain ⟨a,ha⟩:=h2 0 _ F0 rfl rfl
    refine ⟨a,⟨⟨F0::Fs,by simpa using h1,fun i O F ho hf=>?_,h3,h4⟩,h.bel⟩⟩
    cases i with
    | zero =>
      simp only [List.getElem?_cons_zero,Option.some.injEq] at ho hf
      subst ho;subst hf;exact ha
    | succ i=>exact h2 (i+1) O F ho hf
  | [],h1,_,_,_=>simp at h1
theorem aa.close (a:α) (h:aa W (f a::os) w):aa W (Af f::os) w:=h.conv fun F hF=>⟨a,hF⟩
theorem aa.fact {A:Oj} {p:Prop} (h:aa W (A::os) w) (hp:∀ F,A.At w F→p):p:=by
  obtain ⟨F,hF⟩:=h.get 0 A rfl
  exact hp F hF
end
theorem RG {w w':World} {A:Option Addr} {l:List Nat} {F:Nat→Prop} (h:jI w A l) (k:az F w w') (hF:∀ a,A=some a→a.block<w.heap.size∧¬ F a.block):jI w' A l:=by
  refine ⟨h.1,fun hl=>?_⟩
  obtain ⟨b,o,rfl,hc⟩:=h.2 hl
  refine ⟨b,o,rfl,fun i hi=>?_⟩
  have hb:=k.block b (hF _ rfl).1 (hF _ rfl).2
  have:=hc i hi
  unfold World.cell? at this ⊢;simp only [hb]
  exact this
def aV (xs:List (Option Addr × List Nat)):Oj where
  At w F:=(∀ x∈xs,jI w x.1 x.2∧∀ a,x.1=some a→F a.block)∧∀ b,F b→b<w.heap.size
  keeps:=fun ⟨h1,h2⟩ k hd=>⟨fun x hx=>⟨RG (h1 x hx).1 k (fun a e=>⟨h2 _ ((h1 x hx).2 a e),hd _ ((h1 x hx).2 a e)⟩),(h1 x hx).2⟩,fun b hb=>Nat.lt_of_lt_of_le (h2 b hb) k.size⟩
  lt:=fun ⟨_,h2⟩ hb=>h2 _ hb
section
variable {W w w':World} {os:List Oj} {xs ys:List (Option Addr × List Nat)} {A:Option Addr} {l:List Nat}
theorem aa.pool (h:aa W (aV xs::os) w) {x:Option Addr × List Nat} (hx:x∈xs):jI w x.1 x.2:=h.fact fun _ hF=>(hF.1 x hx).1
theorem aa.Ko (h:aa W (aV xs::aV ys::os) w):aa W (aV (xs++ys)::os) w:=h.join.conv fun F hF=>by
  obtain ⟨Fa,Fb,⟨a1,a2⟩,⟨b1,b2⟩,_,hF⟩:=hF
  refine ⟨fun x hx=>?_,fun b hb=>((hF b).1 hb).elim (a2 b) (b2 b)⟩
  rcases List.mem_append.1 hx with hx|hx
  · exact ⟨(a1 x hx).1,fun a e=>(hF _).2 (.inl ((a1 x hx).2 a e))⟩
  · exact ⟨(b1 x hx).1,fun a e=>(hF _).2 (.inr ((b1 x hx).2 a e))⟩
theorem aa.Cj (h:aa W os w) (hs:Below w.heap.size w w') (hb:jI w' A l) (hA:∀ a,A=some a→w.heap.size≤a.block∧a.block<w'.heap.size):aa W (aV [(A,l)]::os) w':=
  h.add (F:=fun b=>∃ a,A=some a∧a.block=b) hs ⟨fun x hx=>by
    simp only [List.mem_singleton] at hx
    subst hx;exact ⟨hb,fun a e=>⟨a,e,rfl⟩⟩,fun b ⟨a,e,e2⟩=>e2 ▸ (hA a e).2⟩ (fun b ⟨a,e,e2⟩=>e2 ▸ (hA a e).1)
end
def SMap (kt:TypeId) (z:Value) (w:World) (b n:Nat) (f:List UInt8→Option Value):Prop:=∃ D:DataW Value,w.ownsMap Tryz.prog kt qy b n D∧Maps.size D=n ∧
  ∀ k:List UInt8,D.atKey (.string k) (.held z)=.held ((f k).getD z)∧Maps.has D (.string k)=(f k).isSome
def xZ (f:List UInt8→Option Value) (k:List UInt8) (v:Option Value):List UInt8→Option Value:=fun j=>if j=k then v else f j
section
variable {kt et mt:TypeId} {z:Value} {w w':World} {b n:Nat} {f:List UInt8→Option Value}
theorem SMap.lt (h:SMap kt z w b n f):b<w.heap.size:=by
  obtain ⟨D,h,_⟩:=h;exact h.lt
theorem SMap.keeps {F:Nat→Prop} (h:SMap kt z w b n f) (hg:az F w w') (hne:¬ F b):SMap kt z w' b n f:=by
  obtain ⟨D,h,r⟩:=h;exact ⟨D,hg.Kk h hne,r⟩
theorem SMap.new (w:World):SMap kt z (w.alloc (.map #[] 0)) w.heap.size 0 (fun _=>none):=
  ⟨.map [],World.ownsMap_made _ _ _ _,rfl,fun f=>⟨by simp [DataW.atKey],by simp [Maps.has]⟩⟩
theorem SMap.look (h:SMap kt z w b n f) (hq:Tryz.prog.underlying kt=some .string) (hm:Tryz.prog.underlying mt=some (.map kt et)) (hz:(zeroValue et).run Tryz.prog w=.ok z w) {k:ByteArray} (hk:k.size≤maxLen):
    (Instr.lookup mt (.map (some b)) (.string k) false).run Tryz.prog w=.ok ((f k.data.toList).getD z) w:=by
  obtain ⟨D,h,_,hD⟩:=h
  obtain ⟨v,ps,hrun,hv⟩:=h.lookup (string_keyed hq) hm hz (show qy z=some (.held z,[]) from rfl) (Go.WideMaps.keyOf_string_mk hq hk)
  rw [(hD _).1] at hv;rw [hrun,Fj hv]
theorem SMap.yc (h:SMap kt z w b n f) (hq:Tryz.prog.underlying kt=some .string) (hm:Tryz.prog.underlying mt=some (.map kt et)) (hz:(zeroValue et).run Tryz.prog w=.ok z w) {k:ByteArray} (hk:k.size≤maxLen):
    (Instr.lookup mt (.map (some b)) (.string k) true).run Tryz.prog w=.ok (.tuple #[(f k.data.toList).getD z,.bool (f k.data.toList).isSome]) w:=by
  obtain ⟨D,h,_,hD⟩:=h
  obtain ⟨v,ps,hrun,hv⟩:=h.look_ok (string_keyed hq) hm hz (show qy z=some (.held z,[]) from rfl) (Go.WideMaps.keyOf_string_mk hq hk)
  rw [(hD _).1] at hv;rw [hrun,Fj hv,(hD _).2]
theorem Kq (k:List UInt8):WideAt.IsKeyLit (.string k):=by simp [WideAt.IsKeyLit]
theorem SMap.put (h:SMap kt z w b n f) (hq:Tryz.prog.underlying kt=some .string) (hm:Tryz.prog.underlying mt=some (.map kt et)) {k:ByteArray} (x:Value) (hk:k.size≤maxLen) (hn:n<maxLen):
    ∃ w',(Instr.mapUpdate mt (.map (some b)) (.string k) x).run Tryz.prog w=.ok () w'∧SMap kt z w' b (if (f k.data.toList).isSome then n else n+1) (xZ f k.data.toList (some x))∧w.grownBy w' (some b):=by
  obtain ⟨D,h,hs,hD⟩:=h
  obtain ⟨w',hrun,h',hg⟩:=h.update (string_keyed hq) hm hn (Go.WideMaps.keyOf_string_mk hq hk) (show qy x=some (.held x,[]) from rfl)
  have hsz:Maps.size (D.put (.string k.data.toList) (.held x))=if (f k.data.toList).isSome then n else n+1:=by
    rw [Maps.size_put (h.tidy (string_keyed hq)),(hD _).2,hs]
  refine ⟨w',hrun,⟨_,by rw [← hsz];exact Kl h',hsz,fun g=>?_⟩,hg⟩
  unfold xZ;by_cases e:g=k.data.toList
  · subst e
    rw [Maps.atKey_put_same h.isMap (Kq _),Maps.has_put_same h.isMap (Kq _)];simp
  · have hne:(Lit.string g) ≠ .string k.data.toList:=by intro h;injection h with h;exact e h
    rw [Maps.atKey_put_other hne,Maps.has_put_other hne,(hD g).1,(hD g).2];simp [e]
end
def qz (kt:TypeId) (z:Value) (b n:Nat) (f:List UInt8→Option Value):Oj where
  At w F:=SMap kt z w b n f∧∀ x,F x↔x=b
  keeps:=fun ⟨h1,h2⟩ k hd=>⟨h1.keeps k (hd _ ((h2 _).2 rfl)),h2⟩
  lt:=fun ⟨h1,h2⟩ hb=>by rw [(h2 _).1 hb];exact h1.lt
section
variable {W w w':World} {os:List Oj} {kt:TypeId} {z:Value} {b n n':Nat} {f f':List UInt8→Option Value}
theorem aa.smap (h:aa W os w) (i:Nat) (hi:os[i]? = some (qz kt z b n f)):SMap kt z w b n f:=by
  obtain ⟨F,h1,_⟩:=h.get i _ hi
  exact h1
theorem aa.Kr (h:aa W os w) (i:Nat) (hi:os[i]? = some (qz kt z b n f)) (hm:SMap kt z w' b n' f') (hg:w.grownBy w' (some b)):aa W (os.set i (qz kt z b n' f')) w'∧Below W.heap.size w w':=by
  obtain ⟨Fs,h1,h2,h3,h4⟩:=h.ex
  obtain ⟨F,hF⟩:=o6 h1 hi
  have hA:=h2 i _ F hi hF
  exact h.turned i (O':=qz kt z b n' f') (F:=F) (F':=F) h1 h2 h3 h4 hF ⟨hm,hA.2⟩ (fun b hb=>.inl hb) ⟨hg.os,hg.tape,hg.output,hg.size,fun j hj hne=>hg.block j hj (fun e=>hne ((hA.2 j).2 (by cases e;rfl)))⟩
theorem aa.Kt (h:aa W os w) (kt:TypeId) (z:Value):aa W (qz kt z w.heap.size 0 (fun _=>none)::os) (w.alloc (.map #[] 0)):=
  h.add (F:=fun x=>x=w.heap.size) ((Below.refl _ _).alloc (Nat.le_refl _) _) ⟨SMap.new w,fun _=>Iff.rfl⟩ (fun b e=>by rw [e];exact Nat.le_refl _)
end
section
variable {ops:Array Oper} {rest:List Oper} {o:Oper} {a:Act} {Q:Exit→Act→World→Prop}
end
end Go.Proofs.YtnebdlchogmneaaGreatDoor
namespace Go.Proofs.YtnebdlchogmneaaGreatDoor
open Go.RowKit
structure aD where
  r:List Nat
  pc:Nat
  run:Int
  tc:Int
  tp:Nat
  ta:Nat
def jP (x:Nat):Value:=.int .u64 (x:Int)
def aD.cs (c:aD):Array Value:=(c.r.map jP++[jP c.pc,.int .i64 c.run,.int .i64 c.tc,jP c.tp,jP c.ta]).toArray
structure aD.Ok (c:aD):Prop where
  len:c.r.length=16
  lt:∀ i,c.r.getD i 0<18446744073709551616
  pc:c.pc<18446744073709551616
def aD.cO (c:aD) (n:Int) (v:Nat):aD:=if 0<n∧n<16 then {c with r:=c.r.set n.toNat v} else c
theorem aD.Ok.cO {c:aD} (h:c.Ok) {n:Int} {v:Nat} (hv:v<18446744073709551616):(c.cO n v).Ok:=by
  unfold aD.cO
  split
  · refine ⟨by simp [h.len],fun i=>?_,h.pc⟩
    simp only
    rw [List.getD_eq_getElem?_getD];by_cases e:n.toNat=i
    · subst e
      rw [List.getElem?_set_self (by rw [h.len];omega)]
      exact hv
    · rw [List.getElem?_set_ne e,← List.getD_eq_getElem?_getD]
      exact h.lt i
  · exact h
theorem aD.sJ {c:aD} (h:c.Ok) {i:Nat} (hi:i<16):c.cs[i]? = some (jP (c.r.getD i 0)):=by
  unfold aD.cs;rw [List.getElem?_toArray,List.getElem?_append_left (by simp [h.len,hi]),List.getElem?_map,List.getD_eq_getElem?_getD,List.getElem?_eq_getElem (by rw [h.len];exact hi)]
  rfl
theorem aD.sK {c:aD} (h:c.Ok) (i:Nat):c.cs[16+i]? = [jP c.pc,.int .i64 c.run,.int .i64 c.tc,jP c.tp,jP c.ta][i]?:=by
  unfold aD.cs;rw [List.getElem?_toArray,List.getElem?_append_right (by simp [h.len])]
  simp [h.len]
theorem aD.RH {c:aD} (h:c.Ok) {i v:Nat} (hi:i<16):c.cs.setIfInBounds i (jP v) = {c with r:=c.r.set i v}.cs:=by
  unfold aD.cs;simp only [List.setIfInBounds_toArray]
  rw [List.set_append_left _ _ (by simp [h.len,hi]),List.map_set]
theorem aD.vZ {c:aD} (h:c.Ok) (v:Nat):c.cs.setIfInBounds 16 (jP v) = {c with pc:=v}.cs:=by
  unfold aD.cs;simp only [List.setIfInBounds_toArray]
  rw [List.set_append_right _ _ (by simp [h.len])]
  simp [h.len]
theorem aD.RI {c:aD} (h:c.Ok) (v:Int):c.cs.setIfInBounds 17 (.int .i64 v) = {c with run:=v}.cs:=by
  unfold aD.cs;simp only [List.setIfInBounds_toArray]
  rw [List.set_append_right _ _ (by simp [h.len])]
  simp [h.len]
structure In where
  op:Int
  rd:Int
  rs:Int
  rt:Int
  ah:Int
def In.cs (i:In):List Value:=[.int .i64 i.op,.int .i64 i.rd,.int .i64 i.rs,.int .i64 i.rt,.int .i64 i.ah]
def lF:In:=⟨0,0,0,0,0⟩
def wd (i:Int):Nat:=(i % 18446744073709551616).toNat
theorem ny (i:Int):wd i<18446744073709551616:=by unfold wd;omega
def uJ (a:Nat):Int:=if a<9223372036854775808 then (a:Int) else (a:Int)-18446744073709551616
structure bJ where
  done:Bool
  i:In
  pc:Nat
  cause:Int
  access:Int
  addr:Nat
  size:Int
  old:Nat
  new:Nat
def fA (o ah:Int) (a b cv:Nat):Nat:=
  if o=1 then wd ah else if o=2 then wd ((a:Int)+ah) else if o=3 then (a*2 ^ (wd ah % 64)) % 18446744073709551616
  else if o=4 then wd ((a:Int)+b) else if o=5 then wd ((a:Int)-b) else if o=6 then a &&& b else if o=7 then a ||| b else if o=8 then a ^^^ b
  else if o=9 then (if uJ a<uJ b then 1 else 0) else cv
def nS (o:Int) (a b:Nat):Bool:=if o=15 then a==b else if o=16 then a != b else if o=17 then decide (uJ a<uJ b) else o==18
def RJ:List Nat:=[0,1,2,2,3,3,3,3,3,3,3,3,3,4,4,5,5,5,6,7,7,7,7,7,7,7,8,8,8,8,9,9,9,9,0]
def kd (o:Int):Nat:=if 0≤o∧o<35 then RJ.getD o.toNat 10 else 10
def ks:Nat→ByteArray
  | 0=>⟨#[78]⟩
  | 1=>⟨#[73]⟩
  | 2=>⟨#[82,73]⟩
  | 3=>⟨#[82]⟩
  | 4=>⟨#[85]⟩
  | 5=>⟨#[66]⟩
  | 6=>⟨#[74]⟩
  | 7=>⟨#[76]⟩
  | 8=>⟨#[83]⟩
  | 9=>⟨#[65]⟩
  | _=>⟨#[]⟩
def uD (k:Nat):Bool:=[1,6,2,7,3,9,4].contains k
def uS (k:Nat):Bool:=[2,7,3,9,4,5,8].contains k
def uT (k:Nat):Bool:=[3,9,5,8].contains k
def uI (k:Nat):Bool:=[1,6,2,7,5,8].contains k
def RL:List Int:=[0,0,0,0,0,0,0,0,0,0,0,0,0,0,0,0,0,0,0,1,2,4,8,1,2,4,1,2,4,8,4,8,4,8,0]
def dJ (o:Int):Int:=if 0≤o∧o<35 then RL.getD o.toNat 0 else 0
def nT (o:Int):Bool:=decide (19≤o∧o≤22)||decide (30≤o∧o≤33)
theorem Fq {o:Int} (h0:0≤o) (h1:o<35):o=0∨o=1∨o=2∨o=3∨o=4∨o=5∨o=6∨o=7∨o=8∨o=9∨o=10∨o=11∨o=12∨o=13∨o=14∨o=15∨o=16∨o=17∨o=18∨o=19∨o=20∨o=21∨o=22∨o=23∨o=24∨o=25∨o=26∨o=27∨o=28∨o=29∨o=30∨o=31∨o=32∨o=33∨o=34:=by omega
theorem Ku {o:Int} (h:¬ (0≤o∧o<35)):kd o=10:=by unfold kd;rw [if_neg h]
theorem RN {o:Int} (h0:0≤o) (h1:o<35):kd o<10:=by
  rcases Fq h0 h1 with rfl|rfl|rfl|rfl|rfl|rfl|rfl|rfl|rfl|rfl|rfl|rfl|rfl|rfl|rfl|rfl|rfl|rfl|rfl|rfl|rfl|rfl|rfl|rfl|rfl|rfl|rfl|rfl|rfl|rfl|rfl|rfl|rfl|rfl|rfl <;> decide
theorem dQ (c:Int) (k:Nat) (W:World) (h:(c=114∧k=2)∨(c,k)∈[((78:Int),0),(73,1),(82,3),(85,4),(66,5),(74,6),(76,7),(83,8),(65,9)]):
    Calls Tryz.prog 157 #[.int .u8 c] W fun e w'=>e=.returned (.string (ks k))∧W=w':=by
  have h':(c=114∧k=2)∨(c=78∧k=0)∨(c=73∧k=1)∨(c=82∧k=3)∨(c=85∧k=4)∨(c=66∧k=5)∨(c=74∧k=6)∨(c=76∧k=7)∨(c=83∧k=8)∨(c=65∧k=9):=by
    simpa using h
  clear h;rcases h' with ⟨rfl,rfl⟩|⟨rfl,rfl⟩|⟨rfl,rfl⟩|⟨rfl,rfl⟩|⟨rfl,rfl⟩|⟨rfl,rfl⟩|⟨rfl,rfl⟩|⟨rfl,rfl⟩|⟨rfl,rfl⟩|⟨rfl,rfl⟩
  all_goals
    go_enter Tryz.func157,Tryz.ntmps157;go_wp2;go_ret
    refine ⟨?_,rfl⟩
    first|rfl|decide|kernel_rfl
theorem mD (o:Int) (W:World):
    Calls Tryz.prog 115 #[.int .i64 o] W fun e w'=>e=.returned (.string (ks (kd o)))∧W=w':=by
  by_cases hr:0≤o∧o<35
  · obtain ⟨h0,h1⟩:=hr
    rcases Fq h0 h1 with rfl|rfl|rfl|rfl|rfl|rfl|rfl|rfl|rfl|rfl|rfl|rfl|rfl|rfl|rfl|rfl|rfl|rfl|rfl|rfl|rfl|rfl|rfl|rfl|rfl|rfl|rfl|rfl|rfl|rfl|rfl|rfl|rfl|rfl|rfl
    · clear h0 h1
      go_enter Tryz.func115,Tryz.ntmps115
      go_wp2_with fail;refine (dQ _ 0 _ (by decide)).mono ?_
      rintro e w' ⟨rfl,rfl⟩;go_wp2;go_ret
      exact ⟨rfl,rfl⟩
    · clear h0 h1
      go_enter Tryz.func115,Tryz.ntmps115
      go_wp2_with fail;refine (dQ _ 1 _ (by decide)).mono ?_
      rintro e w' ⟨rfl,rfl⟩;go_wp2;go_ret
      exact ⟨rfl,rfl⟩
    · clear h0 h1
      go_enter Tryz.func115,Tryz.ntmps115
      go_wp2_with fail;refine (dQ _ 2 _ (by decide)).mono ?_
      rintro e w' ⟨rfl,rfl⟩;go_wp2;go_ret
      exact ⟨rfl,rfl⟩
    · clear h0 h1
      go_enter Tryz.func115,Tryz.ntmps115
      go_wp2_with fail;refine (dQ _ 2 _ (by decide)).mono ?_
      rintro e w' ⟨rfl,rfl⟩;go_wp2;go_ret
      exact ⟨rfl,rfl⟩
    · clear h0 h1
      go_enter Tryz.func115,Tryz.ntmps115
      go_wp2_with fail;refine (dQ _ 3 _ (by decide)).mono ?_
      rintro e w' ⟨rfl,rfl⟩;go_wp2;go_ret
      exact ⟨rfl,rfl⟩
    · clear h0 h1
      go_enter Tryz.func115,Tryz.ntmps115
      go_wp2_with fail;refine (dQ _ 3 _ (by decide)).mono ?_
      rintro e w' ⟨rfl,rfl⟩;go_wp2;go_ret
      exact ⟨rfl,rfl⟩
    · clear h0 h1
      go_enter Tryz.func115,Tryz.ntmps115
      go_wp2_with fail;refine (dQ _ 3 _ (by decide)).mono ?_
      rintro e w' ⟨rfl,rfl⟩;go_wp2;go_ret
      exact ⟨rfl,rfl⟩
    · clear h0 h1
      go_enter Tryz.func115,Tryz.ntmps115
      go_wp2_with fail;refine (dQ _ 3 _ (by decide)).mono ?_
      rintro e w' ⟨rfl,rfl⟩;go_wp2;go_ret
      exact ⟨rfl,rfl⟩
    · clear h0 h1
      go_enter Tryz.func115,Tryz.ntmps115
      go_wp2_with fail;refine (dQ _ 3 _ (by decide)).mono ?_
      rintro e w' ⟨rfl,rfl⟩;go_wp2;go_ret
      exact ⟨rfl,rfl⟩
    · clear h0 h1
      go_enter Tryz.func115,Tryz.ntmps115
      go_wp2_with fail;refine (dQ _ 3 _ (by decide)).mono ?_
      rintro e w' ⟨rfl,rfl⟩;go_wp2;go_ret
      exact ⟨rfl,rfl⟩
    · clear h0 h1
      go_enter Tryz.func115,Tryz.ntmps115
      go_wp2_with fail;refine (dQ _ 3 _ (by decide)).mono ?_
      rintro e w' ⟨rfl,rfl⟩;go_wp2;go_ret
      exact ⟨rfl,rfl⟩
    · clear h0 h1
      go_enter Tryz.func115,Tryz.ntmps115
      go_wp2_with fail;refine (dQ _ 3 _ (by decide)).mono ?_
      rintro e w' ⟨rfl,rfl⟩;go_wp2;go_ret
      exact ⟨rfl,rfl⟩
    · clear h0 h1
      go_enter Tryz.func115,Tryz.ntmps115
      go_wp2_with fail;refine (dQ _ 3 _ (by decide)).mono ?_
      rintro e w' ⟨rfl,rfl⟩;go_wp2;go_ret
      exact ⟨rfl,rfl⟩
    · clear h0 h1
      go_enter Tryz.func115,Tryz.ntmps115
      go_wp2_with fail;refine (dQ _ 4 _ (by decide)).mono ?_
      rintro e w' ⟨rfl,rfl⟩;go_wp2;go_ret
      exact ⟨rfl,rfl⟩
    · clear h0 h1
      go_enter Tryz.func115,Tryz.ntmps115
      go_wp2_with fail;refine (dQ _ 4 _ (by decide)).mono ?_
      rintro e w' ⟨rfl,rfl⟩;go_wp2;go_ret
      exact ⟨rfl,rfl⟩
    · clear h0 h1
      go_enter Tryz.func115,Tryz.ntmps115
      go_wp2_with fail;refine (dQ _ 5 _ (by decide)).mono ?_
      rintro e w' ⟨rfl,rfl⟩;go_wp2;go_ret
      exact ⟨rfl,rfl⟩
    · clear h0 h1
      go_enter Tryz.func115,Tryz.ntmps115
      go_wp2_with fail;refine (dQ _ 5 _ (by decide)).mono ?_
      rintro e w' ⟨rfl,rfl⟩;go_wp2;go_ret
      exact ⟨rfl,rfl⟩
    · clear h0 h1
      go_enter Tryz.func115,Tryz.ntmps115
      go_wp2_with fail;refine (dQ _ 5 _ (by decide)).mono ?_
      rintro e w' ⟨rfl,rfl⟩;go_wp2;go_ret
      exact ⟨rfl,rfl⟩
    · clear h0 h1
      go_enter Tryz.func115,Tryz.ntmps115
      go_wp2_with fail;refine (dQ _ 6 _ (by decide)).mono ?_
      rintro e w' ⟨rfl,rfl⟩;go_wp2;go_ret
      exact ⟨rfl,rfl⟩
    · clear h0 h1
      go_enter Tryz.func115,Tryz.ntmps115
      go_wp2_with fail;refine (dQ _ 7 _ (by decide)).mono ?_
      rintro e w' ⟨rfl,rfl⟩;go_wp2;go_ret
      exact ⟨rfl,rfl⟩
    · clear h0 h1
      go_enter Tryz.func115,Tryz.ntmps115
      go_wp2_with fail;refine (dQ _ 7 _ (by decide)).mono ?_
      rintro e w' ⟨rfl,rfl⟩;go_wp2;go_ret
      exact ⟨rfl,rfl⟩
    · clear h0 h1
      go_enter Tryz.func115,Tryz.ntmps115
      go_wp2_with fail;refine (dQ _ 7 _ (by decide)).mono ?_
      rintro e w' ⟨rfl,rfl⟩;go_wp2;go_ret
      exact ⟨rfl,rfl⟩
    · clear h0 h1
      go_enter Tryz.func115,Tryz.ntmps115
      go_wp2_with fail;refine (dQ _ 7 _ (by decide)).mono ?_
      rintro e w' ⟨rfl,rfl⟩;go_wp2;go_ret
      exact ⟨rfl,rfl⟩
    · clear h0 h1
      go_enter Tryz.func115,Tryz.ntmps115
      go_wp2_with fail;refine (dQ _ 7 _ (by decide)).mono ?_
      rintro e w' ⟨rfl,rfl⟩;go_wp2;go_ret
      exact ⟨rfl,rfl⟩
    · clear h0 h1
      go_enter Tryz.func115,Tryz.ntmps115
      go_wp2_with fail;refine (dQ _ 7 _ (by decide)).mono ?_
      rintro e w' ⟨rfl,rfl⟩;go_wp2;go_ret
      exact ⟨rfl,rfl⟩
    · clear h0 h1
      go_enter Tryz.func115,Tryz.ntmps115
      go_wp2_with fail;refine (dQ _ 7 _ (by decide)).mono ?_
      rintro e w' ⟨rfl,rfl⟩;go_wp2;go_ret
      exact ⟨rfl,rfl⟩
    · clear h0 h1
      go_enter Tryz.func115,Tryz.ntmps115
      go_wp2_with fail;refine (dQ _ 8 _ (by decide)).mono ?_
      rintro e w' ⟨rfl,rfl⟩;go_wp2;go_ret
      exact ⟨rfl,rfl⟩
    · clear h0 h1
      go_enter Tryz.func115,Tryz.ntmps115
      go_wp2_with fail;refine (dQ _ 8 _ (by decide)).mono ?_
      rintro e w' ⟨rfl,rfl⟩;go_wp2;go_ret
      exact ⟨rfl,rfl⟩
    · clear h0 h1
      go_enter Tryz.func115,Tryz.ntmps115
      go_wp2_with fail;refine (dQ _ 8 _ (by decide)).mono ?_
      rintro e w' ⟨rfl,rfl⟩;go_wp2;go_ret
      exact ⟨rfl,rfl⟩
    · clear h0 h1
      go_enter Tryz.func115,Tryz.ntmps115
      go_wp2_with fail;refine (dQ _ 8 _ (by decide)).mono ?_
      rintro e w' ⟨rfl,rfl⟩;go_wp2;go_ret
      exact ⟨rfl,rfl⟩
    · clear h0 h1
      go_enter Tryz.func115,Tryz.ntmps115
      go_wp2_with fail;refine (dQ _ 9 _ (by decide)).mono ?_
      rintro e w' ⟨rfl,rfl⟩;go_wp2;go_ret
      exact ⟨rfl,rfl⟩
    · clear h0 h1
      go_enter Tryz.func115,Tryz.ntmps115
      go_wp2_with fail;refine (dQ _ 9 _ (by decide)).mono ?_
      rintro e w' ⟨rfl,rfl⟩;go_wp2;go_ret
      exact ⟨rfl,rfl⟩
    · clear h0 h1
      go_enter Tryz.func115,Tryz.ntmps115
      go_wp2_with fail;refine (dQ _ 9 _ (by decide)).mono ?_
      rintro e w' ⟨rfl,rfl⟩;go_wp2;go_ret
      exact ⟨rfl,rfl⟩
    · clear h0 h1
      go_enter Tryz.func115,Tryz.ntmps115
      go_wp2_with fail;refine (dQ _ 9 _ (by decide)).mono ?_
      rintro e w' ⟨rfl,rfl⟩;go_wp2;go_ret
      exact ⟨rfl,rfl⟩
    · clear h0 h1
      go_enter Tryz.func115,Tryz.ntmps115
      go_wp2_with fail;refine (dQ _ 0 _ (by decide)).mono ?_
      rintro e w' ⟨rfl,rfl⟩;go_wp2;go_ret
      exact ⟨rfl,rfl⟩
  · rw [Ku hr]
    rcases (show o<0∨(0≤o∧35≤o) by omega) with h|⟨h,h2⟩
    · clear hr
      go_enter Tryz.func115,Tryz.ntmps115;go_wp2;go_ret
      exact ⟨rfl,rfl⟩
    · clear hr
      have h3:decide (o<0)=false:=by simp;omega
      go_enter Tryz.func115,Tryz.ntmps115;go_wp2;go_ret
      exact ⟨rfl,rfl⟩
theorem RO (k:Nat) (W:World) (hk:k<10):
    Calls Tryz.prog 119 #[.string (ks k)] W fun e w'=>e=.returned (.agg #[.bool (uD k),.bool (uS k),.bool (uT k),.bool (uI k)])∧W.alloc (.cells #[.bool (uD k),.bool (uS k),.bool (uT k),.bool (uI k)] 249)=w':=by
  rcases (show k=0∨k=1∨k=2∨k=3∨k=4∨k=5∨k=6∨k=7∨k=8∨k=9 by omega) with rfl|rfl|rfl|rfl|rfl|rfl|rfl|rfl|rfl|rfl
  · rw [show ks 0=⟨#[78]⟩ from rfl,show uD 0=false from rfl,show uS 0=false from rfl,show uT 0=false from rfl,show uI 0=false from rfl]
    clear hk;go_enter Tryz.func119,Tryz.ntmps119;go_wp2;exact bodyPost_ret (v:=.agg #[.bool false,.bool false,.bool false,.bool false]) (by simp [results,Tryz.results119,go_sem]) rfl ⟨rfl,rfl⟩
  · rw [show ks 1=⟨#[73]⟩ from rfl,show uD 1=true from rfl,show uS 1=false from rfl,show uT 1=false from rfl,show uI 1=true from rfl]
    clear hk;go_enter Tryz.func119,Tryz.ntmps119;go_wp2;exact bodyPost_ret (v:=.agg #[.bool true,.bool false,.bool false,.bool true]) (by simp [results,Tryz.results119,go_sem]) rfl ⟨rfl,rfl⟩
  · rw [show ks 2=⟨#[82,73]⟩ from rfl,show uD 2=true from rfl,show uS 2=true from rfl,show uT 2=false from rfl,show uI 2=true from rfl]
    clear hk;go_enter Tryz.func119,Tryz.ntmps119;go_wp2;exact bodyPost_ret (v:=.agg #[.bool true,.bool true,.bool false,.bool true]) (by simp [results,Tryz.results119,go_sem]) rfl ⟨rfl,rfl⟩
  · rw [show ks 3=⟨#[82]⟩ from rfl,show uD 3=true from rfl,show uS 3=true from rfl,show uT 3=true from rfl,show uI 3=false from rfl]
    clear hk;go_enter Tryz.func119,Tryz.ntmps119;go_wp2;exact bodyPost_ret (v:=.agg #[.bool true,.bool true,.bool true,.bool false]) (by simp [results,Tryz.results119,go_sem]) rfl ⟨rfl,rfl⟩
  · rw [show ks 4=⟨#[85]⟩ from rfl,show uD 4=true from rfl,show uS 4=true from rfl,show uT 4=false from rfl,show uI 4=false from rfl]
    clear hk;go_enter Tryz.func119,Tryz.ntmps119;go_wp2;exact bodyPost_ret (v:=.agg #[.bool true,.bool true,.bool false,.bool false]) (by simp [results,Tryz.results119,go_sem]) rfl ⟨rfl,rfl⟩
  · rw [show ks 5=⟨#[66]⟩ from rfl,show uD 5=false from rfl,show uS 5=true from rfl,show uT 5=true from rfl,show uI 5=true from rfl]
    clear hk;go_enter Tryz.func119,Tryz.ntmps119;go_wp2;exact bodyPost_ret (v:=.agg #[.bool false,.bool true,.bool true,.bool true]) (by simp [results,Tryz.results119,go_sem]) rfl ⟨rfl,rfl⟩
  · rw [show ks 6=⟨#[74]⟩ from rfl,show uD 6=true from rfl,show uS 6=false from rfl,show uT 6=false from rfl,show uI 6=true from rfl]
    clear hk;go_enter Tryz.func119,Tryz.ntmps119;go_wp2;exact bodyPost_ret (v:=.agg #[.bool true,.bool false,.bool false,.bool true]) (by simp [results,Tryz.results119,go_sem]) rfl ⟨rfl,rfl⟩
  · rw [show ks 7=⟨#[76]⟩ from rfl,show uD 7=true from rfl,show uS 7=true from rfl,show uT 7=false from rfl,show uI 7=true from rfl]
    clear hk;go_enter Tryz.func119,Tryz.ntmps119;go_wp2;exact bodyPost_ret (v:=.agg #[.bool true,.bool true,.bool false,.bool true]) (by simp [results,Tryz.results119,go_sem]) rfl ⟨rfl,rfl⟩
  · rw [show ks 8=⟨#[83]⟩ from rfl,show uD 8=false from rfl,show uS 8=true from rfl,show uT 8=true from rfl,show uI 8=true from rfl]
    clear hk;go_enter Tryz.func119,Tryz.ntmps119;go_wp2;exact bodyPost_ret (v:=.agg #[.bool false,.bool true,.bool true,.bool true]) (by simp [results,Tryz.results119,go_sem]) rfl ⟨rfl,rfl⟩
  · rw [show ks 9=⟨#[65]⟩ from rfl,show uD 9=true from rfl,show uS 9=true from rfl,show uT 9=true from rfl,show uI 9=false from rfl]
    clear hk;go_enter Tryz.func119,Tryz.ntmps119;go_wp2;exact bodyPost_ret (v:=.agg #[.bool true,.bool true,.bool true,.bool false]) (by simp [results,Tryz.results119,go_sem]) rfl ⟨rfl,rfl⟩
theorem Fu (o:Int) (W:World):Calls Tryz.prog 219 #[.int .i64 o] W fun e w'=>e=.returned (.int .i64 (dJ o))∧W=w':=by
  by_cases hr:0≤o∧o<35
  · obtain ⟨h0,h1⟩:=hr
    rcases Fq h0 h1 with rfl|rfl|rfl|rfl|rfl|rfl|rfl|rfl|rfl|rfl|rfl|rfl|rfl|rfl|rfl|rfl|rfl|rfl|rfl|rfl|rfl|rfl|rfl|rfl|rfl|rfl|rfl|rfl|rfl|rfl|rfl|rfl|rfl|rfl|rfl
    all_goals
      clear h0 h1;go_enter Tryz.func219,Tryz.ntmps219;go_wp2;go_ret
      exact ⟨rfl,rfl⟩
  · rw [show dJ o=0 by unfold dJ;rw [if_neg hr]]
    have n19:(o==19)=false:=by rw [beq_eq_false_iff_ne];omega
    have n20:(o==20)=false:=by rw [beq_eq_false_iff_ne];omega
    have n21:(o==21)=false:=by rw [beq_eq_false_iff_ne];omega
    have n22:(o==22)=false:=by rw [beq_eq_false_iff_ne];omega
    have n23:(o==23)=false:=by rw [beq_eq_false_iff_ne];omega
    have n24:(o==24)=false:=by rw [beq_eq_false_iff_ne];omega
    have n25:(o==25)=false:=by rw [beq_eq_false_iff_ne];omega
    have n26:(o==26)=false:=by rw [beq_eq_false_iff_ne];omega
    have n27:(o==27)=false:=by rw [beq_eq_false_iff_ne];omega
    have n28:(o==28)=false:=by rw [beq_eq_false_iff_ne];omega
    have n29:(o==29)=false:=by rw [beq_eq_false_iff_ne];omega
    have n30:(o==30)=false:=by rw [beq_eq_false_iff_ne];omega
    have n31:(o==31)=false:=by rw [beq_eq_false_iff_ne];omega
    have n32:(o==32)=false:=by rw [beq_eq_false_iff_ne];omega
    have n33:(o==33)=false:=by rw [beq_eq_false_iff_ne];omega
    clear hr;go_enter Tryz.func219,Tryz.ntmps219;go_wp2;go_ret
    exact ⟨rfl,rfl⟩
theorem RP (o:Int) (W:World):Calls Tryz.prog 272 #[.int .i64 o] W fun e w'=>e=.returned (.bool (nT o))∧W=w':=by
  rcases (show o<19∨(19≤o∧o≤22)∨(22<o∧o<30)∨(30≤o∧o≤33)∨33<o by omega) with h|⟨h,h2⟩|⟨h,h2⟩|⟨h,h2⟩|h
  · rw [show nT o=false by unfold nT;simp;omega]
    have e1:decide (19≤o)=false:=by simp;omega
    have e2:decide (30≤o)=false:=by simp;omega
    clear h;go_enter Tryz.func272,Tryz.ntmps272;go_wp2;go_ret
    exact ⟨rfl,rfl⟩
  · rw [show nT o=true by unfold nT;simp;omega]
    have e1:decide (19≤o)=true:=by simp;omega
    have e2:decide (o≤22)=true:=by simp;omega
    clear h h2;go_enter Tryz.func272,Tryz.ntmps272;go_wp2;go_ret
    exact ⟨rfl,rfl⟩
  · rw [show nT o=false by unfold nT;simp;omega]
    have e1:decide (19≤o)=true:=by simp;omega
    have e2:decide (o≤22)=false:=by simp;omega
    have e3:decide (30≤o)=false:=by simp;omega
    clear h h2;go_enter Tryz.func272,Tryz.ntmps272;go_wp2;go_ret
    exact ⟨rfl,rfl⟩
  · rw [show nT o=true by unfold nT;simp;omega]
    have e1:decide (19≤o)=true:=by simp;omega
    have e2:decide (o≤22)=false:=by simp;omega
    have e3:decide (30≤o)=true:=by simp;omega
    have e4:decide (o≤33)=true:=by simp;omega
    clear h h2;go_enter Tryz.func272,Tryz.ntmps272;go_wp2;go_ret
    exact ⟨rfl,rfl⟩
  · rw [show nT o=false by unfold nT;simp;omega]
    have e1:decide (19≤o)=true:=by simp;omega
    have e2:decide (o≤22)=false:=by simp;omega
    have e3:decide (30≤o)=true:=by simp;omega
    have e4:decide (o≤33)=false:=by simp;omega
    clear h;go_enter Tryz.func272,Tryz.ntmps272;go_wp2;go_ret
    exact ⟨rfl,rfl⟩
structure eT where
  right:Int
  owner:Bool
  yf:Int
  set:Nat
  want:Int
  wait:Nat
  held:Bool
  forget:Int
def eT.st (s:eT) (line:Int):Array Value:=#[.int .i64 s.right,.bool s.owner,.int .i64 s.yf,.int .u16 (s.set:Int),.int .i64 s.want,.int .u16 (s.wait:Int),.bool s.held,.int .i64 s.forget,.int .i64 line]
def eT.cs (s:eT) (me num:Int) (rb:Nat) (v:Value) (lay:Bool):Array Value:=#[.int .i64 me,.int .i64 num,.int .i64 s.right,.bool s.owner,.int .i64 s.yf,.int .u16 (s.set:Int),.int .i64 s.want,.int .u16 (s.wait:Int),.bool s.held,.int .i64 s.forget,.int .i64 0,.pointer (some ⟨rb,0,none⟩),v,.bool lay]
def eT.busy (s:eT):Bool:=s.want != 0||s.held
def jZ (me owner:Int):eT:=⟨0,owner==me,owner,0,0,0,false,-1⟩
def eT.hold (s:eT) (r:Int):eT:={s with right:=r,want:=0,held:=true}
def Ag (room:Int):Array Value:=#[.slice none 0 0,.int .i64 0,.int .i64 0,.int .i64 room]
theorem RQ (w:World):Calls Tryz.prog 147 #[.int .i64 16] w fun e w'=>e=.returned (.pointer (some ⟨w.heap.size,0,none⟩))∧w.alloc (.cells (Ag 16) 306)=w':=by
  go_enter Tryz.func147,Tryz.ntmps147
  go_wp2_with fail;go_ret
  exact ⟨rfl,rfl⟩
section
variable {W w:World} {os:List Oj} {g rb:Nat} {me num:Int} {s:eT}
def aN (g rb:Nat) (me num:Int) (s:eT) (os:List Oj):List Oj:=ae g 224 (s.cs me num rb (.slice none 0 0) false)::ae rb 306 (Ag 16)::os
theorem Kv (i:Nat) (h:aa W os w) (hi:os[i]? = some (ae rb 306 (Ag 16))):
    Calls Tryz.prog 99 #[.pointer (some ⟨rb,0,none⟩)] w fun e w'=>e=.returned (.int .i64 0)∧w=w':=by
  have hb:=h.blk i hi
  have c2:w.cell? ⟨rb,2,none⟩=some (.int .i64 0):=hb.cell 2
  have hl:=hb.lt
  clear h hb hi;go_enter Tryz.func99,Tryz.ntmps99
  go_wp2_with fail;go_ret
  exact ⟨rfl,rfl⟩
theorem RS (h:aa W (aN g rb me num s os) w):Calls Tryz.prog 181 #[.pointer (some ⟨g,0,none⟩)] w fun e w'=>e=.returned (.bool s.busy)∧w=w':=by
  have hb:=h.blk 0 rfl
  have c2:w.cell? ⟨g,6,none⟩=some (.int .i64 s.want):=hb.cell 6
  have c3:w.cell? ⟨g,8,none⟩=some (.bool s.held):=hb.cell 8
  have hl:=hb.lt
  unfold eT.busy;generalize s.held=hd at *;generalize s.want=wt at *;clear h hb
  cases e1:(wt != 0) with
  | true =>
    go_enter Tryz.func181,Tryz.ntmps181
    go_wp2_with fail;go_ret
    exact ⟨rfl,rfl⟩
  | false =>
    go_enter Tryz.func181,Tryz.ntmps181
    go_wp2_with fail;go_ret
    exact ⟨rfl,rfl⟩
theorem RU (r:Int) (h:aa W (aN g rb me num s os) w):Calls Tryz.prog 184 #[.pointer (some ⟨g,0,none⟩),.int .i64 r] w fun e w'=>e=.returned (.tuple #[])∧aa W (aN g rb me num (s.hold r) os) w':=by
  have hb:=h.blk 0 rfl
  have c1:w.cell? ⟨g,2,none⟩=some (.int .i64 s.right):=hb.cell 2
  have c2:w.cell? ⟨g,6,none⟩=some (.int .i64 s.want):=hb.cell 6
  have c3:w.cell? ⟨g,8,none⟩=some (.bool s.held):=hb.cell 8
  have hfr:=fun i=>Blk.frozen hb i
  have hl:=hb.lt
  have H:=Yh h
  clear h hb;go_enter Tryz.func184,Tryz.ntmps184
  go_wp2_with fail;refine bodyPost_end (results_none rfl _ _ _) rfl ?_
  exact ⟨rfl,((H.out.ay 0 rfl 2 (.int .i64 r)).ay 0 rfl 6 (.int .i64 0)).ay 0 rfl 8 (.bool true)⟩
theorem RV (me owner num:Int) (w:World) (h:aa W os w):Calls Tryz.prog 98 #[.int .i64 me,.int .i64 owner,.int .i64 num] w fun e w'=>∃ g rb,e=.returned (.pointer (some ⟨g,0,none⟩))∧aa W (aN g rb me num (jZ me owner) os) w':=by
  have H1:=Yh (h.push #[.int .i64 0,.bool (owner==me),.int .i64 owner,.int .u16 0,.int .i64 0,.int .u16 0,.bool false,.int .i64 (-1),.int .i64 0] 100 (b:=w.heap.size) rfl)
  have Fv:=H1.out.drew.blk 0 rfl
  have i0:∀ W',Ext (w.alloc (.cells #[Value.int .i64 0,.bool (owner==me),.int .i64 owner,.int .u16 0,.int .i64 0,.int .u16 0,.bool false,.int .i64 (-1),.int .i64 0] 100)).drew W'→∀ j,W'.cell? ⟨w.heap.size,j,none⟩=#[Value.int .i64 0,.bool (owner==me),.int .i64 owner,.int .u16 0,.int .i64 0,.int .u16 0,.bool false,.int .i64 (-1),.int .i64 0][j]?:=fun W' h j=>(h.cell (p:=⟨w.heap.size,j,none⟩) Fv.lt).trans (Fv.cell j)
  clear h Fv;go_enter Tryz.func98,Tryz.ntmps98
  go_wp2_with fail
  refine wp_region_plan [(0, false), (1, false), (2, false), (3, true), (4, false), (5, true), (6, false)] (by kernel_rfl) (by kernel_rfl) (fun _ d _ _ _ h => by cases d <;> exact h) ?_
  iterate 3 (refine plan_take (v:=?_) rfl (by kernel_rfl) ?_ ?_;rotate_left;(focus (intro w' hw';try go_simp;try with_reducible rfl));simp only [Act.put,pa1,pa2,pa3])
  clear i0;have H2:=Yh H1.out.drew
  generalize World.drew _=w1 at *
  refine plan_call rfl (by kernel_rfl) (by go_simp; exact ⟨rfl, rfl⟩) ?_
  refine (RQ _).mono ?_
  rintro e w2 ⟨rfl,rfl⟩
  refine ⟨_, rfl, (cZ _ _), ?_⟩
  simp only [Act.put,pa1,pa2,pa3]
  iterate 1 (refine plan_take (v:=?_) rfl (by kernel_rfl) ?_ ?_;rotate_left;(focus (intro w' hw';try go_simp;try with_reducible rfl));simp only [Act.put,pa1,pa2,pa3])
  refine plan_turn rfl (by kernel_rfl) (fun K hK=>?_)
  go_simp
  refine hK _ _ ⟨cZ _ _,?_⟩
  clear hK K
  iterate 1 (refine plan_take (v:=?_) rfl (by kernel_rfl) ?_ ?_;rotate_left;(focus (intro w' hw';try go_simp;try with_reducible rfl));simp only [Act.put,pa1,pa2,pa3])
  refine aG ?_
  have H3:=Yh ((H2.out.push (Ag 16) 306 (b:=w1.heap.size) rfl).push #[Value.int .i64 me,.int .i64 num,.int .i64 0,.bool (owner==me),.int .i64 owner,.int .u16 0,.int .i64 0,.int .u16 0,.bool false,.int .i64 (-1),.int .i64 0,.pointer (some ⟨w1.heap.size,0,none⟩),.slice none 0 0,.bool false] 224 (b:=w1.heap.size+1) (by simp))
  go_wp2_with fail;go_ret
  refine ⟨w1.heap.size+1,w1.heap.size,rfl,?_⟩
  exact aa.permA (xs:=[ae (w1.heap.size+1) 224 #[Value.int .i64 me,.int .i64 num,.int .i64 0,.bool (owner==me),.int .i64 owner,.int .u16 0,.int .i64 0,.int .u16 0,.bool false,.int .i64 (-1),.int .i64 0,.pointer (some ⟨w1.heap.size,0,none⟩),.slice none 0 0,.bool false],ae w1.heap.size 306 (Ag 16),ae w.heap.size 100 #[Value.int .i64 0,.bool (owner==me),.int .i64 owner,.int .u16 0,.int .i64 0,.int .u16 0,.bool false,.int .i64 (-1),.int .i64 0]]) [0,1] H3.out (by decide) (show ∀ i,i∈[0,1]→i<3 by decide)
end
section
variable {W w:World} {os:List Oj} {g rb:Nat} {me num:Int} {s:eT}
theorem Fw (h:aa W (aN g rb me num s os) w):Calls Tryz.prog 182 #[.pointer (some ⟨g,0,none⟩)] w fun e w'=>e=.returned (.agg #[.bool false,.int .i64 s.right,.slice none 0 0])∧aa W (aN g rb me num s os) w':=by
  have H1:=Yh (aa.permA (xs:=ae w.heap.size 283 #[.bool false,.int .i64 0,.slice none 0 0]::aN g rb me num s []) [1,2,0] (h.push #[.bool false,.int .i64 0,.slice none 0 0] 283 (b:=w.heap.size) rfl) (by decide) (show ∀ i,i∈[1,2,0]→i<3 by decide))
  change Hid (aa W (aN g rb me num s (ae w.heap.size 283 #[.bool false,.int .i64 0,.slice none 0 0]::os)) _) at H1
  have bV:=H1.out.drew.blk 0 rfl
  generalize hw1:w.alloc (.cells #[.bool false,.int .i64 0,.slice none 0 0] 283)=w1 at *;have s1:∀ W',Ext w1.drew W'→W'.cell? ⟨g,13,none⟩=some (.bool false):=fun W' h=>(h.cell (p:=⟨g,13,none⟩) bV.lt).trans (bV.cell 13)
  have s2:∀ W',Ext w1.drew W'→W'.cell? ⟨g,2,none⟩=some (.int .i64 s.right):=fun W' h=>(h.cell (p:=⟨g,2,none⟩) bV.lt).trans (bV.cell 2)
  have s3:∀ W',Ext w1.drew W'→W'.cell? ⟨g,12,none⟩=some (.slice none 0 0):=fun W' h=>(h.cell (p:=⟨g,12,none⟩) bV.lt).trans (bV.cell 12)
  clear h bV;go_enter Tryz.func182,Tryz.ntmps182
  go_wp2_with fail
  refine wp_region_plan [(0, false), (1, false), (2, false), (3, false), (4, false), (5, false), (6, false), (7, false), (8, false), (9, false), (10, false), (11, false), (12, false), (13, false), (14, true), (15, true)] (by kernel_rfl) (by kernel_rfl) (fun _ d _ _ _ h => by cases d <;> exact h) ?_
  iterate 14 (refine plan_take (v:=?_) rfl (by kernel_rfl) ?_ ?_;rotate_left;(focus (intro w' hw';try go_simp;try with_reducible rfl));simp only [Act.put,pa1,pa2,pa3])
  clear s1 s2 s3;have H2:=Yh H1.out.drew
  generalize w1.drew=w2 at *;refine plan_turn rfl (by kernel_rfl) (fun K hK=>?_)
  go_simp
  refine hK _ _ ⟨cZ _ _,?_⟩
  clear hK K;refine nL rfl (by kernel_rfl) (by kernel_rfl) (fun K hK=>?_)
  go_simp
  refine hK _ _ ?_
  clear hK K;refine aG ?_
  have H3:=Yh (H2.out.push #[.bool false,.int .i64 s.right,.slice none 0 0] 283 (b:=w2.heap.size) rfl)
  generalize hw3:w2.alloc (.cells #[.bool false,.int .i64 s.right,.slice none 0 0] 283)=w3 at *;have bV:=H3.out.blk 1 rfl
  have bt:=H3.out.blk 0 rfl
  have br:=H3.out.blk 3 rfl
  have p13:w3.cell? ⟨g,13,none⟩=some (.bool false):=bV.cell 13
  have p12:w3.cell? ⟨g,12,none⟩=some (.slice none 0 0):=bV.cell 12
  have t0:w3.cell? ⟨w2.heap.size,0,none⟩=some (.bool false):=bt.cell 0
  have t1:w3.cell? ⟨w2.heap.size,1,none⟩=some (.int .i64 s.right):=bt.cell 1
  have t2:w3.cell? ⟨w2.heap.size,2,none⟩=some (.slice none 0 0):=bt.cell 2
  have r0:w3.cell? ⟨w.heap.size,0,none⟩=some (.bool false):=br.cell 0
  have r1:w3.cell? ⟨w.heap.size,1,none⟩=some (.int .i64 0):=br.cell 1
  have r2:w3.cell? ⟨w.heap.size,2,none⟩=some (.slice none 0 0):=br.cell 2
  have hfp:=fun i=>Blk.frozen bV i
  have hft:=fun i=>Blk.frozen bt i
  have hfr:=fun i=>Blk.frozen br i
  have l1:=bV.lt
  have l2:=bt.lt
  have l3:=br.lt
  have n1:g≠w2.heap.size:=jQ bV bt (by decide)
  have n2:g≠w.heap.size:=jQ bV br (by decide)
  have n3:w2.heap.size≠g:=fun e=>n1 e.symm
  have n4:w.heap.size≠g:=fun e=>n2 e.symm
  clear bV bt br hw3 hw1;generalize w.heap.size=rr at *;generalize w2.heap.size=tt at *
  go_wp2_with fail;have HF:=((((H3.out.ay 1 rfl 13 (.bool false)).ay 1 rfl 12 (.slice none 0 0)).ay 3 rfl 0 (.bool false)).ay 3 rfl 1 (.int .i64 s.right)).ay 3 rfl 2 (.slice none 0 0)
  refine bodyPost_ret (kK Tryz.results182 _ _ rr 283 #[.bool false,.int .i64 s.right,.slice none 0 0] rfl (HF.blk 3 rfl) (by kernel_rfl)) rfl ?_
  refine ⟨rfl,?_⟩
  exact aa.permA (xs:=ae tt 283 #[.bool false,.int .i64 s.right,.slice none 0 0]::aN g rb me num s [ae rr 283 #[.bool false,.int .i64 s.right,.slice none 0 0]]) [1,2] HF (by decide) (show ∀ i,i∈[1,2]→i<4 by decide)
end
section
variable {W w:World} {os:List Oj} {g rb:Nat} {me num:Int} {s:eT}
theorem RX (hs:s.set=0) (h:aa W (aN g rb me num s os) w):Calls Tryz.prog 183 #[.pointer (some ⟨g,0,none⟩)] w fun e w'=>e=.returned (.tuple #[])∧aa W (aN g rb me num (s.hold 2) os) w':=by
  have hb:=h.blk 0 rfl
  have c1:w.cell? ⟨g,5,none⟩=some (.int .u16 0):=(hb.cell 5).trans (by show some (Value.int .u16 (s.set:Int))=_;rw [hs];rfl)
  have hl:=hb.lt
  have HH:=Yh (RU 2 h)
  clear h hb hs;go_enter Tryz.func183,Tryz.ntmps183
  go_wp2_with fail;refine HH.out.mono ?_
  rintro e w1 ⟨rfl,h1⟩;have H1:=Yh h1
  clear h1
  go_wp2_with fail;refine bodyPost_ret (results_none rfl _ _ _) rfl ?_
  exact ⟨rfl,H1.out⟩
theorem RY (Kw:s.busy=false) (hr:s.right<2) (ho:s.owner=true) (hs:s.set=0) (h:aa W (aN g rb me num s os) w):Calls Tryz.prog 135 #[.pointer (some ⟨g,0,none⟩),.int .i64 2] w fun e w'=>e=.returned (.agg #[.bool false,.int .i64 2,.slice none 0 0])∧aa W (aN g rb me num (s.hold 2) os) w':=by
  have H1:=Yh (aa.permA (xs:=ae w.heap.size 283 #[.bool false,.int .i64 0,.slice none 0 0]::aN g rb me num s []) [1,2,0] (h.push #[.bool false,.int .i64 0,.slice none 0 0] 283 (b:=w.heap.size) rfl) (by decide) (show ∀ i,i∈[1,2,0]→i<3 by decide))
  change Hid (aa W (aN g rb me num s (ae w.heap.size 283 #[.bool false,.int .i64 0,.slice none 0 0]::os)) _) at H1
  have HB:=Yh (RS H1.out)
  rw [Kw] at HB;have HG:=Yh (RX hs H1.out)
  have bV:=H1.out.blk 0 rfl
  have c1:(w.alloc (.cells #[.bool false,.int .i64 0,.slice none 0 0] 283)).cell? ⟨g,2,none⟩=some (.int .i64 s.right):=bV.cell 2
  have c2:(w.alloc (.cells #[.bool false,.int .i64 0,.slice none 0 0] 283)).cell? ⟨g,3,none⟩=some (.bool true):=(bV.cell 3).trans (by show some (Value.bool s.owner)=_;rw [ho])
  have hl:=bV.lt
  have n1:decide (2≤s.right)=false:=by simp;omega
  generalize s.right=rt at c1 n1;clear h bV Kw hr ho hs;go_enter Tryz.func135,Tryz.ntmps135
  go_wp2_with fail;refine HB.out.mono ?_
  rintro e w1 ⟨rfl,rfl⟩
  go_wp2_with fail;refine HG.out.mono ?_
  rintro e w2 ⟨rfl,h2⟩;have H2:=Yh h2
  clear h2 c1 c2 hl
  go_wp2_with fail;refine (Fw H2.out).mono ?_
  rintro e w3 ⟨rfl,h3⟩;have H3:=Yh h3
  have br:=h3.blk 2 rfl
  have r0:w3.cell? ⟨w.heap.size,0,none⟩=some (.bool false):=br.cell 0
  have r1:w3.cell? ⟨w.heap.size,1,none⟩=some (.int .i64 0):=br.cell 1
  have r2:w3.cell? ⟨w.heap.size,2,none⟩=some (.slice none 0 0):=br.cell 2
  have hfr:=fun i=>Blk.frozen br i
  have hl:=br.lt
  clear h3 br;generalize w.heap.size=rr at *
  go_wp2_with fail;have HF:=((H3.out.ay 2 rfl 0 (.bool false)).ay 2 rfl 1 (.int .i64 2)).ay 2 rfl 2 (.slice none 0 0)
  refine bodyPost_ret (kK Tryz.results135 _ _ rr 283 #[.bool false,.int .i64 2,.slice none 0 0] rfl (HF.blk 2 rfl) (by kernel_rfl)) rfl ?_
  refine ⟨rfl,?_⟩
  exact aa.permA (xs:=aN g rb me num (s.hold 2) [ae rr 283 #[.bool false,.int .i64 2,.slice none 0 0]]) [0,1] HF (by decide) (show ∀ i,i∈[0,1]→i<3 by decide)
end
section
variable {W w:World} {os:List Oj} {g rb:Nat} {me num:Int} {s:eT}
theorem RZ (hh:s.held=true) (hf:s.forget<0) (h:aa W (aN g rb me num s os) w):Calls Tryz.prog 177 #[.pointer (some ⟨g,0,none⟩)] w fun e w'=>e=.returned (.agg #[.bool false,.int .i64 s.right,.slice none 0 0])∧aa W (aN g rb me num {s with held:=false} os) w':=by
  have H1:=Yh (aa.permA (xs:=ae w.heap.size 283 #[.bool false,.int .i64 0,.slice none 0 0]::aN g rb me num s []) [1,2,0] (h.push #[.bool false,.int .i64 0,.slice none 0 0] 283 (b:=w.heap.size) rfl) (by decide) (show ∀ i,i∈[1,2,0]→i<3 by decide))
  change Hid (aa W (aN g rb me num s (ae w.heap.size 283 #[.bool false,.int .i64 0,.slice none 0 0]::os)) _) at H1
  generalize hw1:w.alloc (.cells #[.bool false,.int .i64 0,.slice none 0 0] 283)=w1 at *;have bV:=H1.out.blk 0 rfl
  have c1:w1.cell? ⟨g,8,none⟩=some (.bool true):=(bV.cell 8).trans (by show some (Value.bool s.held)=_;rw [hh])
  have c2:w1.cell? ⟨g,9,none⟩=some (.int .i64 s.forget):=bV.cell 9
  have c3:w1.cell? ⟨g,11,none⟩=some (.pointer (some ⟨rb,0,none⟩)):=bV.cell 11
  have hl:=bV.lt
  have hfr:=fun i=>Blk.frozen bV i
  have n1:decide (0≤s.forget)=false:=by simp;omega
  have H2:Hid (aa W (aN g rb me num {s with held:=false} (ae w.heap.size 283 #[.bool false,.int .i64 0,.slice none 0 0]::os)) (w1.setCell ⟨g,8,none⟩ (.bool false))):=Yh (H1.out.ay 0 rfl 8 (.bool false))
  have HL:=Yh (Kv 1 H2.out rfl)
  have HT:=Yh (Fw H2.out)
  clear h bV hh hf;go_enter Tryz.func177,Tryz.ntmps177
  go_wp2_with fail;have c4:(w1.setCell ⟨g,8,none⟩ (.bool false)).cell? ⟨g,11,none⟩=some (.pointer (some ⟨rb,0,none⟩)):=(H2.out.blk 0 rfl).cell 11
  have hl2:g<(w1.setCell ⟨g,8,none⟩ (.bool false)).heap.size:=(H2.out.blk 0 rfl).lt
  generalize w1.setCell ⟨g,8,none⟩ (.bool false)=w2 at *;clear c1 c2 c3 hl hfr H1 hw1;refine wp_loop_rounds 1 ?_
  rw [rounds_succ]
  go_wp2_with fail;refine HL.out.mono ?_
  rintro e w3 ⟨rfl,rfl⟩
  go_wp2_with fail;refine HT.out.mono ?_
  rintro e w3 ⟨rfl,h3⟩;have H3:=Yh h3
  have br:=h3.blk 2 rfl
  have r0:w3.cell? ⟨w.heap.size,0,none⟩=some (.bool false):=br.cell 0
  have r1:w3.cell? ⟨w.heap.size,1,none⟩=some (.int .i64 0):=br.cell 1
  have r2:w3.cell? ⟨w.heap.size,2,none⟩=some (.slice none 0 0):=br.cell 2
  have hfr:=fun i=>Blk.frozen br i
  have hl:=br.lt
  clear h3 br c4 hl2 HL HT H2;generalize w.heap.size=rr at *
  go_wp2_with fail;have HF:=((H3.out.ay 2 rfl 0 (.bool false)).ay 2 rfl 1 (.int .i64 s.right)).ay 2 rfl 2 (.slice none 0 0)
  refine bodyPost_ret (kK Tryz.results177 _ _ rr 283 #[.bool false,.int .i64 s.right,.slice none 0 0] rfl (HF.blk 2 rfl) (by kernel_rfl)) rfl ?_
  refine ⟨rfl,?_⟩
  exact aa.permA (xs:=aN g rb me num {s with held:=false} [ae rr 283 #[.bool false,.int .i64 s.right,.slice none 0 0]]) [0,1] HF (by decide) (show ∀ i,i∈[0,1]→i<3 by decide)
end
end Go.Proofs.YtnebdlchogmneaaGreatDoor
