/- Texts of the proof: PermB, PermC, PermD, PermE, PermH, MmuD, PlanI. -/
import Derived.Test.YtnebdlchogmneaaGreatDoorPk7
import Derived.Test.YtnebdlchogmneaaGreatDoorPk1
import Derived.BigRegion
import Derived.Test.YtnebdlchogmneaaGreatDoorPk6
set_option maxRecDepth 100000
set_option maxHeartbeats 8000000
set_option linter.unusedVariables false
set_option linter.unusedSimpArgs false
namespace Go.Proofs.YtnebdlchogmneaaGreatDoor
open Go.RowKit
theorem aaV (v r w x u g a d:Bool) (au ag acc:Int) (user sum iG:Bool) (W:World):
    Calls Tryz.prog 267 #[.agg #[.bool v,.bool r,.bool w,.bool x,.bool u,.bool g,.bool a,.bool d,.int .i64 au,.int .u64 ag],.int .i64 acc,.agg #[.bool user,.bool sum,.bool iG]] W fun e w'=>e=.returned (.bool (yC v r w x u a d acc user sum iG))∧Below W.heap.size W w':=by
  have key:∀ R L E A:Bool,I4 v r w=R→vV r x=L→(acc==0)=E→D7 r w x d acc iG=A →
      Calls Tryz.prog 267 #[.agg #[.bool v,.bool r,.bool w,.bool x,.bool u,.bool g,.bool a,.bool d,.int .i64 au,.int .u64 ag],.int .i64 acc,.agg #[.bool user,.bool sum,.bool iG]] W fun e w'=>e=.returned (.bool (R&&L&&a && !(user && !u) && !(!user&&u&&(E || !sum))&&A))∧Below W.heap.size W w':=by
    intro R L E A hR hL hE hA;have HR:=Yh hR
    have HL:=Yh hL
    have HA:=Yh hA
    clear hR hL hA
    cases R
    · go_enter Tryz.func267,Tryz.ntmps267
      go_wp2_with (go_at_call 212;refine (D8 _ _ _ _ _ _ _ _ _ _ _).mono ?_;rintro e w' ⟨rfl,rfl⟩;rw [HR.out])
      go_ret
      exact ⟨rfl,by go_grown⟩
    cases L
    · go_enter Tryz.func267,Tryz.ntmps267
      go_wp2_with (first|(go_at_call 212;refine (D8 _ _ _ _ _ _ _ _ _ _ _).mono ?_;rintro e w' ⟨rfl,rfl⟩;rw [HR.out])|(go_at_call 213;refine (I5 _ _ _ _ _ _ _ _ _ _ _).mono ?_;rintro e w' ⟨rfl,rfl⟩;rw [HL.out]))
      go_ret
      exact ⟨rfl,by go_grown⟩
    cases a
    · go_enter Tryz.func267,Tryz.ntmps267
      go_wp2_with (first|(go_at_call 212;refine (D8 _ _ _ _ _ _ _ _ _ _ _).mono ?_;rintro e w' ⟨rfl,rfl⟩;rw [HR.out])|(go_at_call 213;refine (I5 _ _ _ _ _ _ _ _ _ _ _).mono ?_;rintro e w' ⟨rfl,rfl⟩;rw [HL.out]))
      go_ret
      exact ⟨rfl,by go_grown⟩
    cases user <;> cases u <;> cases E <;> cases sum
    all_goals
      go_enter Tryz.func267,Tryz.ntmps267
      go_wp2_with (first|(go_at_call 212;refine (D8 _ _ _ _ _ _ _ _ _ _ _).mono ?_;rintro e w' ⟨rfl,rfl⟩;rw [HR.out])|(go_at_call 213;refine (I5 _ _ _ _ _ _ _ _ _ _ _).mono ?_;rintro e w' ⟨rfl,rfl⟩;rw [HL.out])|(go_at_call 309;refine (aaU _ _ _ _ _ _ _ _ _ _ _ _ _).mono ?_;rintro e w' ⟨rfl,rfl⟩;rw [HA.out]))
      go_ret
      exact ⟨rfl,by go_grown⟩
  exact key _ _ _ _ rfl rfl rfl rfl
end Go.Proofs.YtnebdlchogmneaaGreatDoor
namespace Go.Proofs.YtnebdlchogmneaaGreatDoor
open Go.RowKit
theorem aaW (W:World) (o o':Obj):bO W.heap.size (W.alloc o) (W.alloc o'):=fun p hp=>by
  rcases Nat.lt_or_ge p.block W.heap.size with h|h
  · rw [World.cell?_alloc_lt _ _ _ h,World.cell?_alloc_lt _ _ _ h]
  · have h1:∀ q:Obj,(W.alloc q).heap[p.block]? = none:=fun q=>Array.getElem?_eq_none (by simp;omega)
    simp [World.cell?,h1]
theorem aaX (g:Nat) (W:World):
    Calls Tryz.prog 217 #[.pointer (some ⟨g,0,none⟩)] W fun e w'=>e=.returned (.agg #[.pointer (some ⟨g,0,none⟩),.pointer (some ⟨g,1,none⟩),.pointer (some ⟨g,2,none⟩),.pointer (some ⟨g,3,none⟩),.pointer (some ⟨g,4,none⟩),.pointer (some ⟨g,5,none⟩),.pointer (some ⟨g,6,none⟩),.pointer (some ⟨g,7,none⟩)])∧(W.alloc (.cells #[.pointer (some ⟨g,0,none⟩),.pointer (some ⟨g,1,none⟩),.pointer (some ⟨g,2,none⟩),.pointer (some ⟨g,3,none⟩),.pointer (some ⟨g,4,none⟩),.pointer (some ⟨g,5,none⟩),.pointer (some ⟨g,6,none⟩),.pointer (some ⟨g,7,none⟩)] 377)).drew=w':=by
  go_enter Tryz.func217,Tryz.ntmps217;go_wp2;refine wp_region_plan_by (bO W.heap.size) (bI _) [(0,false),(1,false),(2,false),(3,false),(4,false),(5,false),(6,false),(7,false),(8,false),(9,false),(10,false),(11,false),(12,false),(13,false),(14,false),(15,false),(16,false),(17,false),(18,false),(19,false),(20,false),(21,false),(22,false),(23,false),(24,false),(25,true)] (by kernel_rfl) (by kernel_rfl) (fun _ d _ _ _ h=>by cases d <;> exact h) ?_
  iterate 25 (refine plan_take (v:=?_) rfl (by kernel_rfl) ?_ ?_;rotate_left;(focus (intro w' hw';try go_simp;try with_reducible rfl));simp only [Act.put,pa1,pa2,pa3])
  refine plan_turn rfl (by kernel_rfl) (fun K hK=>?_)
  go_simp
  refine hK _ _ ⟨aaW _ _ _,?_⟩
  refine aG ?_
  go_wp2;exact bodyPost_ret (v:=.agg #[.pointer (some ⟨g,0,none⟩),.pointer (some ⟨g,1,none⟩),.pointer (some ⟨g,2,none⟩),.pointer (some ⟨g,3,none⟩),.pointer (some ⟨g,4,none⟩),.pointer (some ⟨g,5,none⟩),.pointer (some ⟨g,6,none⟩),.pointer (some ⟨g,7,none⟩)]) (by simp [results,Tryz.results217,go_sem]) rfl ⟨rfl,rfl⟩
section
variable {w w':World} {g:Nat} {t:TypeId} {cs:Array Value}
theorem Blk.new (w:World) (t:TypeId) (cs:Array Value):Blk (w.alloc (.cells cs t)) w.heap.size t cs:=heap_alloc_new w _
theorem Blk.bM {n:Nat} (w:World) (t:TypeId) (cs:Array Value) (hn:n=w.heap.size):Blk (w.alloc (.cells cs t)) n t cs:=by subst hn;exact heap_alloc_new w _
end
theorem abJ (s:ByteArray) (W:World) (h:s.size≠8):
    Calls Tryz.prog 170 #[.string s] W fun e w'=>e=.returned (.tuple #[.agg #[.bool false,.bool false,.bool false,.bool false,.bool false,.bool false,.bool false,.bool false,.int .i64 0,.int .u64 0],.bool false])∧Below W.heap.size W w':=by
  have hn:((s.size:Int) != 8)=true:=by rw [bne_iff_ne];omega
  clear h;go_enter Tryz.func170,Tryz.ntmps170;go_wp2;exact bodyPost_ret (v:=.tuple #[.agg #[.bool false,.bool false,.bool false,.bool false,.bool false,.bool false,.bool false,.bool false,.int .i64 0,.int .u64 0],.bool false]) (by simp [results,Tryz.results170,go_sem]) rfl ⟨rfl,by go_grown⟩
theorem aaY (a0 a1 a2 a3 a4 a5 a6 a7:Value) (W:World):(Instr.index 377 (.agg #[a0,a1,a2,a3,a4,a5,a6,a7]) (.int .i64 0)).run Tryz.prog W=.ok a0 W:=by
  simp [Instr.index,asIntOf,run_underlying Tryz.underlying377,part,isAgg,run_underlying Tryz.underlying376,go_sem]
theorem aaZ (a0 a1 a2 a3 a4 a5 a6 a7:Value) (W:World):(Instr.index 377 (.agg #[a0,a1,a2,a3,a4,a5,a6,a7]) (.int .i64 1)).run Tryz.prog W=.ok a1 W:=by
  simp [Instr.index,asIntOf,run_underlying Tryz.underlying377,part,isAgg,run_underlying Tryz.underlying376,go_sem]
theorem aa0 (a0 a1 a2 a3 a4 a5 a6 a7:Value) (W:World):(Instr.index 377 (.agg #[a0,a1,a2,a3,a4,a5,a6,a7]) (.int .i64 2)).run Tryz.prog W=.ok a2 W:=by
  simp [Instr.index,asIntOf,run_underlying Tryz.underlying377,part,isAgg,run_underlying Tryz.underlying376,go_sem]
theorem aa1 (a0 a1 a2 a3 a4 a5 a6 a7:Value) (W:World):(Instr.index 377 (.agg #[a0,a1,a2,a3,a4,a5,a6,a7]) (.int .i64 3)).run Tryz.prog W=.ok a3 W:=by
  simp [Instr.index,asIntOf,run_underlying Tryz.underlying377,part,isAgg,run_underlying Tryz.underlying376,go_sem]
theorem aa2 (a0 a1 a2 a3 a4 a5 a6 a7:Value) (W:World):(Instr.index 377 (.agg #[a0,a1,a2,a3,a4,a5,a6,a7]) (.int .i64 4)).run Tryz.prog W=.ok a4 W:=by
  simp [Instr.index,asIntOf,run_underlying Tryz.underlying377,part,isAgg,run_underlying Tryz.underlying376,go_sem]
theorem aa3 (a0 a1 a2 a3 a4 a5 a6 a7:Value) (W:World):(Instr.index 377 (.agg #[a0,a1,a2,a3,a4,a5,a6,a7]) (.int .i64 5)).run Tryz.prog W=.ok a5 W:=by
  simp [Instr.index,asIntOf,run_underlying Tryz.underlying377,part,isAgg,run_underlying Tryz.underlying376,go_sem]
theorem aa4 (a0 a1 a2 a3 a4 a5 a6 a7:Value) (W:World):(Instr.index 377 (.agg #[a0,a1,a2,a3,a4,a5,a6,a7]) (.int .i64 6)).run Tryz.prog W=.ok a6 W:=by
  simp [Instr.index,asIntOf,run_underlying Tryz.underlying377,part,isAgg,run_underlying Tryz.underlying376,go_sem]
theorem aa5 (a0 a1 a2 a3 a4 a5 a6 a7:Value) (W:World):(Instr.index 377 (.agg #[a0,a1,a2,a3,a4,a5,a6,a7]) (.int .i64 7)).run Tryz.prog W=.ok a7 W:=by
  simp [Instr.index,asIntOf,run_underlying Tryz.underlying377,part,isAgg,run_underlying Tryz.underlying376,go_sem]
def PN:Nat→Nat
  | 0=>118
  | 1=>114
  | 2=>119
  | 3=>120
  | 4=>117
  | 5=>103
  | 6=>97
  | 7=>100
  | _=>0
def zu (s:ByteArray) (j:Nat):Nat:=(s.data.getD j 0).toNat
def bF (s:ByteArray) (j:Nat):Bool:=zu s j==PN j
def dB (s:ByteArray) (j:Nat):Bool:=bF s j||zu s j==45
def fO (s:ByteArray) (k j:Nat):Bool:=decide (j<k)&&bF s j
def kY (s:ByteArray) (k:Nat):Array Value:=#[.bool (fO s k 0),.bool (fO s k 1),.bool (fO s k 2),.bool (fO s k 3),.bool (fO s k 4),.bool (fO s k 5),.bool (fO s k 6),.bool (fO s k 7),.int .i64 0,.int .u64 0]
def PO (s:ByteArray) (W:World) (i:Value) (wr:World):Prop:=
  ∃ k:Nat,k≤8∧i=.int .i64 k∧(∀ j,j<k→dB s j=true)∧Blk wr W.heap.size 268 #[.bool false,.bool false,.bool false,.bool false,.bool false,.bool false,.bool false,.bool false,.int .i64 0,.int .u64 0]∧Blk wr (W.heap.size+1) 268 (kY s k)∧Below W.heap.size W wr
theorem aa6 (s:ByteArray) (k:Nat) (hk:k<8):(kY s k).setIfInBounds k (.bool (bF s k))=kY s (k+1):=by
  rcases (show k=0∨k=1∨k=2∨k=3∨k=4∨k=5∨k=6∨k=7 by omega) with rfl|rfl|rfl|rfl|rfl|rfl|rfl|rfl <;> simp [kY,fO]
theorem lY {s:ByteArray} {W wr:World} {k:Nat} {n:Int} {c:Bool} (hk:k<8) (hn:n=((k+1:Nat):Int)) (hok:∀ j,j<k→dB s j=true) (hz:Blk wr W.heap.size 268 #[.bool false,.bool false,.bool false,.bool false,.bool false,.bool false,.bool false,.bool false,.int .i64 0,.int .u64 0])
    (hp:Blk wr (W.heap.size+1) 268 (kY s k)) (hb:Below W.heap.size W wr) (hc:bF s k=c) (ho:dB s k=true):
    PO s W (.int .i64 n) (wr.setCell ⟨W.heap.size+1,k,none⟩ (.bool c)).drew:=by
  subst hn hc;refine ⟨k+1,by omega,rfl,fun j hj=>?_,?_,?_,?_⟩
  · rcases Nat.lt_or_ge j k with h|h
    · exact hok j h
    · obtain rfl:j=k:=by omega
      exact ho
  · exact (hz.far (by simp) _).drew
  · rw [← aa6 s k hk];exact (hp.ay k _).drew
  · exact (hb.setCell (by simp) _).drew
theorem vN (s:ByteArray) (k:Nat) (h:k<s.size):bF s k=(((s[k]'h).toNat:Int)==(PN k:Int)):=by
  have e:zu s k=(s[k]'h).toNat:=by
    have h':k<s.data.size:=h
    simp [zu,Array.getD,h',h]
    rfl
  unfold bF;rw [e,Bool.eq_iff_iff];simp only [beq_iff_eq]
  omega
theorem vO (s:ByteArray) (k:Nat) (h:k<s.size):dB s k=(bF s k || !(((s[k]'h).toNat:Int) != 45)):=by
  have e:zu s k=(s[k]'h).toNat:=by
    have h':k<s.data.size:=h
    simp [zu,Array.getD,h',h]
    rfl
  unfold dB;rw [e]
  congr 1
  rw [Bool.eq_iff_iff];simp
  omega
def D9 (s:ByteArray):Bool:=dB s 0&&dB s 1&&dB s 2&&dB s 3&&dB s 4&&dB s 5&&dB s 6&&dB s 7
theorem vP {s:ByteArray} {k:Nat} (hk:k<8) (h:dB s k=false):D9 s=false:=by
  unfold D9;rcases (show k=0∨k=1∨k=2∨k=3∨k=4∨k=5∨k=6∨k=7 by omega) with rfl|rfl|rfl|rfl|rfl|rfl|rfl|rfl <;> simp [h]
def qA (s:ByteArray):Value:=if D9 s then .tuple #[.agg #[.bool (bF s 0),.bool (bF s 1),.bool (bF s 2),.bool (bF s 3),.bool (bF s 4),.bool (bF s 5),.bool (bF s 6),.bool (bF s 7),.int .i64 0,.int .u64 0],.bool true] else .tuple #[.agg #[.bool false,.bool false,.bool false,.bool false,.bool false,.bool false,.bool false,.bool false,.int .i64 0,.int .u64 0],.bool false]
theorem R5 (s:ByteArray) (W:World) (h:s.size=8):
    Calls Tryz.prog 170 #[.string s] W fun e w'=>e=.returned (qA s)∧Below W.heap.size W w':=by
  go_enter Tryz.func170,Tryz.ntmps170
  go_wp2_with fail;refine (aaX _ _).mono ?_
  rintro e w' ⟨rfl,rfl⟩
  go_wp2_with fail;have H:=Yh h
  clear h
  go_loopw [12] (fun i wr=>PO s W i wr) (fun i _=>8-(intOf i).toNat)
  case atStart =>
    refine ⟨0,by omega,rfl,fun j hj=>by omega,?_,?_,by go_grown⟩
    · exact (((Blk.new _ _ _).alloc _).alloc _).drew
    · rw [show kY s 0=#[.bool false,.bool false,.bool false,.bool false,.bool false,.bool false,.bool false,.bool false,.int .i64 0,.int .u64 0] by simp [kY,fO]]
      exact ((Blk.bM _ _ _ (by simp)).alloc _).drew
  case round =>
    obtain ⟨k,hk,rfl,hok,hz,hp,hb⟩:=hrel
    have hs:=H.out
    have HZ:=Yh hz
    have HP:=Yh hp
    have HB:=Yh hb
    have HO:=Yh hok
    have lZ:=fun j=>hz.frozen j
    have hz0:wr.cell? ⟨W.heap.size,0,none⟩=some (.bool false):=hz.cell 0
    have hz1:wr.cell? ⟨W.heap.size,1,none⟩=some (.bool false):=hz.cell 1
    have hz2:wr.cell? ⟨W.heap.size,2,none⟩=some (.bool false):=hz.cell 2
    have hz3:wr.cell? ⟨W.heap.size,3,none⟩=some (.bool false):=hz.cell 3
    have gq:wr.cell? ⟨W.heap.size,4,none⟩=some (.bool false):=hz.cell 4
    have gu:wr.cell? ⟨W.heap.size,5,none⟩=some (.bool false):=hz.cell 5
    have gy:wr.cell? ⟨W.heap.size,6,none⟩=some (.bool false):=hz.cell 6
    have gz:wr.cell? ⟨W.heap.size,7,none⟩=some (.bool false):=hz.cell 7
    have gB:wr.cell? ⟨W.heap.size,8,none⟩=some (.int .i64 0):=hz.cell 8
    have gD:wr.cell? ⟨W.heap.size,9,none⟩=some (.int .u64 0):=hz.cell 9
    have hl:=hp.lt
    clear hz hp hb hok;rcases (show k=8∨k<8 by omega) with rfl|vQ
    · clear hk
      have hp0:wr.cell? ⟨W.heap.size+1,0,none⟩=some (.bool (bF s 0)):=by rw [HP.out.cell 0];simp [kY,fO]
      have hp1:wr.cell? ⟨W.heap.size+1,1,none⟩=some (.bool (bF s 1)):=by rw [HP.out.cell 1];simp [kY,fO]
      have hp2:wr.cell? ⟨W.heap.size+1,2,none⟩=some (.bool (bF s 2)):=by rw [HP.out.cell 2];simp [kY,fO]
      have hp3:wr.cell? ⟨W.heap.size+1,3,none⟩=some (.bool (bF s 3)):=by rw [HP.out.cell 3];simp [kY,fO]
      have hp4:wr.cell? ⟨W.heap.size+1,4,none⟩=some (.bool (bF s 4)):=by rw [HP.out.cell 4];simp [kY,fO]
      have hp5:wr.cell? ⟨W.heap.size+1,5,none⟩=some (.bool (bF s 5)):=by rw [HP.out.cell 5];simp [kY,fO]
      have yu:wr.cell? ⟨W.heap.size+1,6,none⟩=some (.bool (bF s 6)):=by rw [HP.out.cell 6];simp [kY,fO]
      have hp7:wr.cell? ⟨W.heap.size+1,7,none⟩=some (.bool (bF s 7)):=by rw [HP.out.cell 7];simp [kY,fO]
      have hp8:wr.cell? ⟨W.heap.size+1,8,none⟩=some (.int .i64 0):=by rw [HP.out.cell 8];simp [kY,fO]
      have hp9:wr.cell? ⟨W.heap.size+1,9,none⟩=some (.int .u64 0):=by rw [HP.out.cell 9];simp [kY,fO]
      go_wp2;refine bodyPost_ret (v:=.tuple #[.agg #[.bool (bF s 0),.bool (bF s 1),.bool (bF s 2),.bool (bF s 3),.bool (bF s 4),.bool (bF s 5),.bool (bF s 6),.bool (bF s 7),.int .i64 0,.int .u64 0],.bool true]) (by simp [results,Tryz.results170,go_sem,hz0,hz1,hz2,hz3,gq,gu,gy,gz,gB,gD]) rfl ⟨?_,?_⟩
      · have ho:=HO.out
        rw [qA,if_pos];simp [D9,ho]
      · have hB:=HB.out
        repeat (first|(with_reducible exact hB)|(with_reducible refine Below.drew ?_)|(with_reducible refine Below.setCell ?_ (by simp) _))
    · rcases (show k=0∨k=1∨k=2∨k=3∨k=4∨k=5∨k=6∨k=7 by omega) with rfl|rfl|rfl|rfl|rfl|rfl|rfl|rfl
      · clear hk vQ
        have hc:wr.cell? ⟨W.heap.size+1,0,none⟩=some (.bool (fO s 0 0)):=HP.out.cell 0
        have hf:wr.frozen? ⟨W.heap.size+1,0,none⟩=false:=HP.out.frozen 0
        have ix:∀ W':World,(Instr.index 377 (.agg #[.pointer (some ⟨W.heap.size+1,0,none⟩),.pointer (some ⟨W.heap.size+1,1,none⟩),.pointer (some ⟨W.heap.size+1,2,none⟩),.pointer (some ⟨W.heap.size+1,3,none⟩),.pointer (some ⟨W.heap.size+1,4,none⟩),.pointer (some ⟨W.heap.size+1,5,none⟩),.pointer (some ⟨W.heap.size+1,6,none⟩),.pointer (some ⟨W.heap.size+1,7,none⟩)]) (.int .i64 0)).run Tryz.prog W'=.ok (.pointer (some ⟨W.heap.size+1,0,none⟩)) W':=fun _=>aaY _ _ _ _ _ _ _ _ _
        have HF:=Yh (vN s 0 (by omega))
        have HG:=Yh (vO s 0 (by omega))
        cases hL:(((s[0]'(by omega)).toNat:Int)==((({data:=#[118,114,119,120,117,103,97,100] }:ByteArray)[0]'(by decide)).toNat:Int))
        · cases hM:(((s[0]'(by omega)).toNat:Int) != 45)
          · have hfl:bF s 0=false:=HF.out.trans hL
            have hok:dB s 0=true:=by rw [HG.out,hfl,hM];rfl
            have dI:=Yh hfl
            have aX:=Yh hok
            clear hfl hok hz0 hz1 hz2 hz3 gq gu gy gz gB gD lZ
            go_wp2_with fail;refine wp_region_plan_by (bO (W.heap.size+1)) (bI _) [(0,false),(1,false),(2,false),(3,false),(4,false),(5,false),(6,false),(7,false),(8,true)] (by kernel_rfl) (by kernel_rfl) (fun _ d _ _ _ h=>by cases d <;> exact h) ?_
            iterate 8 (refine plan_take (v:=?_) rfl (by kernel_rfl) ?_ ?_;rotate_left;(focus (intro w' hw';try go_simp;try with_reducible rfl));simp only [Act.put,pa1,pa2,pa3])
            refine plan_turn rfl (by kernel_rfl) (fun K hK=>?_)
            go_simp
            refine hK _ _ ⟨gZ (gY ((bI _).refl _)),?_⟩
            refine aG ?_
            go_wp2
            go_roundw
            case rel=>exact lY (by omega) rfl HO.out HZ.out HP.out HB.out dI.out aX.out
            case measure=>simp [intOf]
          · have hfl:bF s 0=false:=HF.out.trans hL
            have hok:dB s 0=false:=by rw [HG.out,hfl,hM];rfl
            have aX:=Yh hok
            clear hfl hok
            go_wp2_with fail;refine wp_region_plan_by (bO (W.heap.size+1)) (bI _) [(0,false),(1,false),(2,false),(3,false),(4,false),(5,false),(6,false),(7,false),(8,true)] (by kernel_rfl) (by kernel_rfl) (fun _ d _ _ _ h=>by cases d <;> exact h) ?_
            iterate 8 (refine plan_take (v:=?_) rfl (by kernel_rfl) ?_ ?_;rotate_left;(focus (intro w' hw';try go_simp;try with_reducible rfl));simp only [Act.put,pa1,pa2,pa3])
            refine plan_turn rfl (by kernel_rfl) (fun K hK=>?_)
            go_simp
            refine hK _ _ ⟨gZ (gY ((bI _).refl _)),?_⟩
            refine aG ?_
            go_wp2;refine bodyPost_ret (v:=.tuple #[.agg #[.bool false,.bool false,.bool false,.bool false,.bool false,.bool false,.bool false,.bool false,.int .i64 0,.int .u64 0],.bool false]) (by simp [results,Tryz.results170,go_sem,hz0,hz1,hz2,hz3,gq,gu,gy,gz,gB,gD]) rfl ⟨?_,?_⟩
            · rw [qA,vP (by omega) aX.out,if_neg (by decide)]
            · have hB:=HB.out
              repeat (first|(with_reducible exact hB)|(with_reducible refine Below.drew ?_)|(with_reducible refine Below.setCell ?_ (by simp) _))
        · have hfl:bF s 0=true:=HF.out.trans hL
          have hok:dB s 0=true:=by rw [HG.out,hfl];rfl
          have dI:=Yh hfl
          have aX:=Yh hok
          clear hfl hok hz0 hz1 hz2 hz3 gq gu gy gz gB gD lZ
          go_wp2_with fail;refine wp_region_plan_by (bO (W.heap.size+1)) (bI _) [(0,false),(1,false),(2,false),(3,false),(4,false),(5,false),(6,false),(7,false),(8,true)] (by kernel_rfl) (by kernel_rfl) (fun _ d _ _ _ h=>by cases d <;> exact h) ?_
          iterate 8 (refine plan_take (v:=?_) rfl (by kernel_rfl) ?_ ?_;rotate_left;(focus (intro w' hw';try go_simp;try with_reducible rfl));simp only [Act.put,pa1,pa2,pa3])
          refine plan_turn rfl (by kernel_rfl) (fun K hK=>?_)
          go_simp
          refine hK _ _ ⟨gZ (gY ((bI _).refl _)),?_⟩
          refine aG ?_
          go_wp2
          go_roundw
          case rel=>exact lY (by omega) rfl HO.out HZ.out HP.out HB.out dI.out aX.out
          case measure=>simp [intOf]
      · clear hk vQ
        have hc:wr.cell? ⟨W.heap.size+1,1,none⟩=some (.bool (fO s 1 1)):=HP.out.cell 1
        have hf:wr.frozen? ⟨W.heap.size+1,1,none⟩=false:=HP.out.frozen 1
        have ix:∀ W':World,(Instr.index 377 (.agg #[.pointer (some ⟨W.heap.size+1,0,none⟩),.pointer (some ⟨W.heap.size+1,1,none⟩),.pointer (some ⟨W.heap.size+1,2,none⟩),.pointer (some ⟨W.heap.size+1,3,none⟩),.pointer (some ⟨W.heap.size+1,4,none⟩),.pointer (some ⟨W.heap.size+1,5,none⟩),.pointer (some ⟨W.heap.size+1,6,none⟩),.pointer (some ⟨W.heap.size+1,7,none⟩)]) (.int .i64 1)).run Tryz.prog W'=.ok (.pointer (some ⟨W.heap.size+1,1,none⟩)) W':=fun _=>aaZ _ _ _ _ _ _ _ _ _
        have HF:=Yh (vN s 1 (by omega))
        have HG:=Yh (vO s 1 (by omega))
        cases hL:(((s[1]'(by omega)).toNat:Int)==((({data:=#[118,114,119,120,117,103,97,100] }:ByteArray)[1]'(by decide)).toNat:Int))
        · cases hM:(((s[1]'(by omega)).toNat:Int) != 45)
          · have hfl:bF s 1=false:=HF.out.trans hL
            have hok:dB s 1=true:=by rw [HG.out,hfl,hM];rfl
            have dI:=Yh hfl
            have aX:=Yh hok
            clear hfl hok hz0 hz1 hz2 hz3 gq gu gy gz gB gD lZ
            go_wp2_with fail;refine wp_region_plan_by (bO (W.heap.size+1)) (bI _) [(0,false),(1,false),(2,false),(3,false),(4,false),(5,false),(6,false),(7,false),(8,true)] (by kernel_rfl) (by kernel_rfl) (fun _ d _ _ _ h=>by cases d <;> exact h) ?_
            iterate 8 (refine plan_take (v:=?_) rfl (by kernel_rfl) ?_ ?_;rotate_left;(focus (intro w' hw';try go_simp;try with_reducible rfl));simp only [Act.put,pa1,pa2,pa3])
            refine plan_turn rfl (by kernel_rfl) (fun K hK=>?_)
            go_simp
            refine hK _ _ ⟨gZ (gY ((bI _).refl _)),?_⟩
            refine aG ?_
            go_wp2
            go_roundw
            case rel=>exact lY (by omega) rfl HO.out HZ.out HP.out HB.out dI.out aX.out
            case measure=>simp [intOf]
          · have hfl:bF s 1=false:=HF.out.trans hL
            have hok:dB s 1=false:=by rw [HG.out,hfl,hM];rfl
            have aX:=Yh hok
            clear hfl hok
            go_wp2_with fail;refine wp_region_plan_by (bO (W.heap.size+1)) (bI _) [(0,false),(1,false),(2,false),(3,false),(4,false),(5,false),(6,false),(7,false),(8,true)] (by kernel_rfl) (by kernel_rfl) (fun _ d _ _ _ h=>by cases d <;> exact h) ?_
            iterate 8 (refine plan_take (v:=?_) rfl (by kernel_rfl) ?_ ?_;rotate_left;(focus (intro w' hw';try go_simp;try with_reducible rfl));simp only [Act.put,pa1,pa2,pa3])
            refine plan_turn rfl (by kernel_rfl) (fun K hK=>?_)
            go_simp
            refine hK _ _ ⟨gZ (gY ((bI _).refl _)),?_⟩
            refine aG ?_
            go_wp2;refine bodyPost_ret (v:=.tuple #[.agg #[.bool false,.bool false,.bool false,.bool false,.bool false,.bool false,.bool false,.bool false,.int .i64 0,.int .u64 0],.bool false]) (by simp [results,Tryz.results170,go_sem,hz0,hz1,hz2,hz3,gq,gu,gy,gz,gB,gD]) rfl ⟨?_,?_⟩
            · rw [qA,vP (by omega) aX.out,if_neg (by decide)]
            · have hB:=HB.out
              repeat (first|(with_reducible exact hB)|(with_reducible refine Below.drew ?_)|(with_reducible refine Below.setCell ?_ (by simp) _))
        · have hfl:bF s 1=true:=HF.out.trans hL
          have hok:dB s 1=true:=by rw [HG.out,hfl];rfl
          have dI:=Yh hfl
          have aX:=Yh hok
          clear hfl hok hz0 hz1 hz2 hz3 gq gu gy gz gB gD lZ
          go_wp2_with fail;refine wp_region_plan_by (bO (W.heap.size+1)) (bI _) [(0,false),(1,false),(2,false),(3,false),(4,false),(5,false),(6,false),(7,false),(8,true)] (by kernel_rfl) (by kernel_rfl) (fun _ d _ _ _ h=>by cases d <;> exact h) ?_
          iterate 8 (refine plan_take (v:=?_) rfl (by kernel_rfl) ?_ ?_;rotate_left;(focus (intro w' hw';try go_simp;try with_reducible rfl));simp only [Act.put,pa1,pa2,pa3])
          refine plan_turn rfl (by kernel_rfl) (fun K hK=>?_)
          go_simp
          refine hK _ _ ⟨gZ (gY ((bI _).refl _)),?_⟩
          refine aG ?_
          go_wp2
          go_roundw
          case rel=>exact lY (by omega) rfl HO.out HZ.out HP.out HB.out dI.out aX.out
          case measure=>simp [intOf]
      · clear hk vQ
        have hc:wr.cell? ⟨W.heap.size+1,2,none⟩=some (.bool (fO s 2 2)):=HP.out.cell 2
        have hf:wr.frozen? ⟨W.heap.size+1,2,none⟩=false:=HP.out.frozen 2
        have ix:∀ W':World,(Instr.index 377 (.agg #[.pointer (some ⟨W.heap.size+1,0,none⟩),.pointer (some ⟨W.heap.size+1,1,none⟩),.pointer (some ⟨W.heap.size+1,2,none⟩),.pointer (some ⟨W.heap.size+1,3,none⟩),.pointer (some ⟨W.heap.size+1,4,none⟩),.pointer (some ⟨W.heap.size+1,5,none⟩),.pointer (some ⟨W.heap.size+1,6,none⟩),.pointer (some ⟨W.heap.size+1,7,none⟩)]) (.int .i64 2)).run Tryz.prog W'=.ok (.pointer (some ⟨W.heap.size+1,2,none⟩)) W':=fun _=>aa0 _ _ _ _ _ _ _ _ _
        have HF:=Yh (vN s 2 (by omega))
        have HG:=Yh (vO s 2 (by omega))
        cases hL:(((s[2]'(by omega)).toNat:Int)==((({data:=#[118,114,119,120,117,103,97,100] }:ByteArray)[2]'(by decide)).toNat:Int))
        · cases hM:(((s[2]'(by omega)).toNat:Int) != 45)
          · have hfl:bF s 2=false:=HF.out.trans hL
            have hok:dB s 2=true:=by rw [HG.out,hfl,hM];rfl
            have dI:=Yh hfl
            have aX:=Yh hok
            clear hfl hok hz0 hz1 hz2 hz3 gq gu gy gz gB gD lZ
            go_wp2_with fail;refine wp_region_plan_by (bO (W.heap.size+1)) (bI _) [(0,false),(1,false),(2,false),(3,false),(4,false),(5,false),(6,false),(7,false),(8,true)] (by kernel_rfl) (by kernel_rfl) (fun _ d _ _ _ h=>by cases d <;> exact h) ?_
            iterate 8 (refine plan_take (v:=?_) rfl (by kernel_rfl) ?_ ?_;rotate_left;(focus (intro w' hw';try go_simp;try with_reducible rfl));simp only [Act.put,pa1,pa2,pa3])
            refine plan_turn rfl (by kernel_rfl) (fun K hK=>?_)
            go_simp
            refine hK _ _ ⟨gZ (gY ((bI _).refl _)),?_⟩
            refine aG ?_
            go_wp2
            go_roundw
            case rel=>exact lY (by omega) rfl HO.out HZ.out HP.out HB.out dI.out aX.out
            case measure=>simp [intOf]
          · have hfl:bF s 2=false:=HF.out.trans hL
            have hok:dB s 2=false:=by rw [HG.out,hfl,hM];rfl
            have aX:=Yh hok
            clear hfl hok
            go_wp2_with fail;refine wp_region_plan_by (bO (W.heap.size+1)) (bI _) [(0,false),(1,false),(2,false),(3,false),(4,false),(5,false),(6,false),(7,false),(8,true)] (by kernel_rfl) (by kernel_rfl) (fun _ d _ _ _ h=>by cases d <;> exact h) ?_
            iterate 8 (refine plan_take (v:=?_) rfl (by kernel_rfl) ?_ ?_;rotate_left;(focus (intro w' hw';try go_simp;try with_reducible rfl));simp only [Act.put,pa1,pa2,pa3])
            refine plan_turn rfl (by kernel_rfl) (fun K hK=>?_)
            go_simp
            refine hK _ _ ⟨gZ (gY ((bI _).refl _)),?_⟩
            refine aG ?_
            go_wp2;refine bodyPost_ret (v:=.tuple #[.agg #[.bool false,.bool false,.bool false,.bool false,.bool false,.bool false,.bool false,.bool false,.int .i64 0,.int .u64 0],.bool false]) (by simp [results,Tryz.results170,go_sem,hz0,hz1,hz2,hz3,gq,gu,gy,gz,gB,gD]) rfl ⟨?_,?_⟩
            · rw [qA,vP (by omega) aX.out,if_neg (by decide)]
            · have hB:=HB.out
              repeat (first|(with_reducible exact hB)|(with_reducible refine Below.drew ?_)|(with_reducible refine Below.setCell ?_ (by simp) _))
        · have hfl:bF s 2=true:=HF.out.trans hL
          have hok:dB s 2=true:=by rw [HG.out,hfl];rfl
          have dI:=Yh hfl
          have aX:=Yh hok
          clear hfl hok hz0 hz1 hz2 hz3 gq gu gy gz gB gD lZ
          go_wp2_with fail;refine wp_region_plan_by (bO (W.heap.size+1)) (bI _) [(0,false),(1,false),(2,false),(3,false),(4,false),(5,false),(6,false),(7,false),(8,true)] (by kernel_rfl) (by kernel_rfl) (fun _ d _ _ _ h=>by cases d <;> exact h) ?_
          iterate 8 (refine plan_take (v:=?_) rfl (by kernel_rfl) ?_ ?_;rotate_left;(focus (intro w' hw';try go_simp;try with_reducible rfl));simp only [Act.put,pa1,pa2,pa3])
          refine plan_turn rfl (by kernel_rfl) (fun K hK=>?_)
          go_simp
          refine hK _ _ ⟨gZ (gY ((bI _).refl _)),?_⟩
          refine aG ?_
          go_wp2
          go_roundw
          case rel=>exact lY (by omega) rfl HO.out HZ.out HP.out HB.out dI.out aX.out
          case measure=>simp [intOf]
      · clear hk vQ
        have hc:wr.cell? ⟨W.heap.size+1,3,none⟩=some (.bool (fO s 3 3)):=HP.out.cell 3
        have hf:wr.frozen? ⟨W.heap.size+1,3,none⟩=false:=HP.out.frozen 3
        have ix:∀ W':World,(Instr.index 377 (.agg #[.pointer (some ⟨W.heap.size+1,0,none⟩),.pointer (some ⟨W.heap.size+1,1,none⟩),.pointer (some ⟨W.heap.size+1,2,none⟩),.pointer (some ⟨W.heap.size+1,3,none⟩),.pointer (some ⟨W.heap.size+1,4,none⟩),.pointer (some ⟨W.heap.size+1,5,none⟩),.pointer (some ⟨W.heap.size+1,6,none⟩),.pointer (some ⟨W.heap.size+1,7,none⟩)]) (.int .i64 3)).run Tryz.prog W'=.ok (.pointer (some ⟨W.heap.size+1,3,none⟩)) W':=fun _=>aa1 _ _ _ _ _ _ _ _ _
        have HF:=Yh (vN s 3 (by omega))
        have HG:=Yh (vO s 3 (by omega))
        cases hL:(((s[3]'(by omega)).toNat:Int)==((({data:=#[118,114,119,120,117,103,97,100] }:ByteArray)[3]'(by decide)).toNat:Int))
        · cases hM:(((s[3]'(by omega)).toNat:Int) != 45)
          · have hfl:bF s 3=false:=HF.out.trans hL
            have hok:dB s 3=true:=by rw [HG.out,hfl,hM];rfl
            have dI:=Yh hfl
            have aX:=Yh hok
            clear hfl hok hz0 hz1 hz2 hz3 gq gu gy gz gB gD lZ
            go_wp2_with fail;refine wp_region_plan_by (bO (W.heap.size+1)) (bI _) [(0,false),(1,false),(2,false),(3,false),(4,false),(5,false),(6,false),(7,false),(8,true)] (by kernel_rfl) (by kernel_rfl) (fun _ d _ _ _ h=>by cases d <;> exact h) ?_
            iterate 8 (refine plan_take (v:=?_) rfl (by kernel_rfl) ?_ ?_;rotate_left;(focus (intro w' hw';try go_simp;try with_reducible rfl));simp only [Act.put,pa1,pa2,pa3])
            refine plan_turn rfl (by kernel_rfl) (fun K hK=>?_)
            go_simp
            refine hK _ _ ⟨gZ (gY ((bI _).refl _)),?_⟩
            refine aG ?_
            go_wp2
            go_roundw
            case rel=>exact lY (by omega) rfl HO.out HZ.out HP.out HB.out dI.out aX.out
            case measure=>simp [intOf]
          · have hfl:bF s 3=false:=HF.out.trans hL
            have hok:dB s 3=false:=by rw [HG.out,hfl,hM];rfl
            have aX:=Yh hok
            clear hfl hok
            go_wp2_with fail;refine wp_region_plan_by (bO (W.heap.size+1)) (bI _) [(0,false),(1,false),(2,false),(3,false),(4,false),(5,false),(6,false),(7,false),(8,true)] (by kernel_rfl) (by kernel_rfl) (fun _ d _ _ _ h=>by cases d <;> exact h) ?_
            iterate 8 (refine plan_take (v:=?_) rfl (by kernel_rfl) ?_ ?_;rotate_left;(focus (intro w' hw';try go_simp;try with_reducible rfl));simp only [Act.put,pa1,pa2,pa3])
            refine plan_turn rfl (by kernel_rfl) (fun K hK=>?_)
            go_simp
            refine hK _ _ ⟨gZ (gY ((bI _).refl _)),?_⟩
            refine aG ?_
            go_wp2;refine bodyPost_ret (v:=.tuple #[.agg #[.bool false,.bool false,.bool false,.bool false,.bool false,.bool false,.bool false,.bool false,.int .i64 0,.int .u64 0],.bool false]) (by simp [results,Tryz.results170,go_sem,hz0,hz1,hz2,hz3,gq,gu,gy,gz,gB,gD]) rfl ⟨?_,?_⟩
            · rw [qA,vP (by omega) aX.out,if_neg (by decide)]
            · have hB:=HB.out
              repeat (first|(with_reducible exact hB)|(with_reducible refine Below.drew ?_)|(with_reducible refine Below.setCell ?_ (by simp) _))
        · have hfl:bF s 3=true:=HF.out.trans hL
          have hok:dB s 3=true:=by rw [HG.out,hfl];rfl
          have dI:=Yh hfl
          have aX:=Yh hok
          clear hfl hok hz0 hz1 hz2 hz3 gq gu gy gz gB gD lZ
          go_wp2_with fail;refine wp_region_plan_by (bO (W.heap.size+1)) (bI _) [(0,false),(1,false),(2,false),(3,false),(4,false),(5,false),(6,false),(7,false),(8,true)] (by kernel_rfl) (by kernel_rfl) (fun _ d _ _ _ h=>by cases d <;> exact h) ?_
          iterate 8 (refine plan_take (v:=?_) rfl (by kernel_rfl) ?_ ?_;rotate_left;(focus (intro w' hw';try go_simp;try with_reducible rfl));simp only [Act.put,pa1,pa2,pa3])
          refine plan_turn rfl (by kernel_rfl) (fun K hK=>?_)
          go_simp
          refine hK _ _ ⟨gZ (gY ((bI _).refl _)),?_⟩
          refine aG ?_
          go_wp2
          go_roundw
          case rel=>exact lY (by omega) rfl HO.out HZ.out HP.out HB.out dI.out aX.out
          case measure=>simp [intOf]
      · clear hk vQ
        have hc:wr.cell? ⟨W.heap.size+1,4,none⟩=some (.bool (fO s 4 4)):=HP.out.cell 4
        have hf:wr.frozen? ⟨W.heap.size+1,4,none⟩=false:=HP.out.frozen 4
        have ix:∀ W':World,(Instr.index 377 (.agg #[.pointer (some ⟨W.heap.size+1,0,none⟩),.pointer (some ⟨W.heap.size+1,1,none⟩),.pointer (some ⟨W.heap.size+1,2,none⟩),.pointer (some ⟨W.heap.size+1,3,none⟩),.pointer (some ⟨W.heap.size+1,4,none⟩),.pointer (some ⟨W.heap.size+1,5,none⟩),.pointer (some ⟨W.heap.size+1,6,none⟩),.pointer (some ⟨W.heap.size+1,7,none⟩)]) (.int .i64 4)).run Tryz.prog W'=.ok (.pointer (some ⟨W.heap.size+1,4,none⟩)) W':=fun _=>aa2 _ _ _ _ _ _ _ _ _
        have HF:=Yh (vN s 4 (by omega))
        have HG:=Yh (vO s 4 (by omega))
        cases hL:(((s[4]'(by omega)).toNat:Int)==((({data:=#[118,114,119,120,117,103,97,100] }:ByteArray)[4]'(by decide)).toNat:Int))
        · cases hM:(((s[4]'(by omega)).toNat:Int) != 45)
          · have hfl:bF s 4=false:=HF.out.trans hL
            have hok:dB s 4=true:=by rw [HG.out,hfl,hM];rfl
            have dI:=Yh hfl
            have aX:=Yh hok
            clear hfl hok hz0 hz1 hz2 hz3 gq gu gy gz gB gD lZ
            go_wp2_with fail;refine wp_region_plan_by (bO (W.heap.size+1)) (bI _) [(0,false),(1,false),(2,false),(3,false),(4,false),(5,false),(6,false),(7,false),(8,true)] (by kernel_rfl) (by kernel_rfl) (fun _ d _ _ _ h=>by cases d <;> exact h) ?_
            iterate 8 (refine plan_take (v:=?_) rfl (by kernel_rfl) ?_ ?_;rotate_left;(focus (intro w' hw';try go_simp;try with_reducible rfl));simp only [Act.put,pa1,pa2,pa3])
            refine plan_turn rfl (by kernel_rfl) (fun K hK=>?_)
            go_simp
            refine hK _ _ ⟨gZ (gY ((bI _).refl _)),?_⟩
            refine aG ?_
            go_wp2
            go_roundw
            case rel=>exact lY (by omega) rfl HO.out HZ.out HP.out HB.out dI.out aX.out
            case measure=>simp [intOf]
          · have hfl:bF s 4=false:=HF.out.trans hL
            have hok:dB s 4=false:=by rw [HG.out,hfl,hM];rfl
            have aX:=Yh hok
            clear hfl hok
            go_wp2_with fail;refine wp_region_plan_by (bO (W.heap.size+1)) (bI _) [(0,false),(1,false),(2,false),(3,false),(4,false),(5,false),(6,false),(7,false),(8,true)] (by kernel_rfl) (by kernel_rfl) (fun _ d _ _ _ h=>by cases d <;> exact h) ?_
            iterate 8 (refine plan_take (v:=?_) rfl (by kernel_rfl) ?_ ?_;rotate_left;(focus (intro w' hw';try go_simp;try with_reducible rfl));simp only [Act.put,pa1,pa2,pa3])
            refine plan_turn rfl (by kernel_rfl) (fun K hK=>?_)
            go_simp
            refine hK _ _ ⟨gZ (gY ((bI _).refl _)),?_⟩
            refine aG ?_
            go_wp2;refine bodyPost_ret (v:=.tuple #[.agg #[.bool false,.bool false,.bool false,.bool false,.bool false,.bool false,.bool false,.bool false,.int .i64 0,.int .u64 0],.bool false]) (by simp [results,Tryz.results170,go_sem,hz0,hz1,hz2,hz3,gq,gu,gy,gz,gB,gD]) rfl ⟨?_,?_⟩
            · rw [qA,vP (by omega) aX.out,if_neg (by decide)]
            · have hB:=HB.out
              repeat (first|(with_reducible exact hB)|(with_reducible refine Below.drew ?_)|(with_reducible refine Below.setCell ?_ (by simp) _))
        · have hfl:bF s 4=true:=HF.out.trans hL
          have hok:dB s 4=true:=by rw [HG.out,hfl];rfl
          have dI:=Yh hfl
          have aX:=Yh hok
          clear hfl hok hz0 hz1 hz2 hz3 gq gu gy gz gB gD lZ
          go_wp2_with fail;refine wp_region_plan_by (bO (W.heap.size+1)) (bI _) [(0,false),(1,false),(2,false),(3,false),(4,false),(5,false),(6,false),(7,false),(8,true)] (by kernel_rfl) (by kernel_rfl) (fun _ d _ _ _ h=>by cases d <;> exact h) ?_
          iterate 8 (refine plan_take (v:=?_) rfl (by kernel_rfl) ?_ ?_;rotate_left;(focus (intro w' hw';try go_simp;try with_reducible rfl));simp only [Act.put,pa1,pa2,pa3])
          refine plan_turn rfl (by kernel_rfl) (fun K hK=>?_)
          go_simp
          refine hK _ _ ⟨gZ (gY ((bI _).refl _)),?_⟩
          refine aG ?_
          go_wp2
          go_roundw
          case rel=>exact lY (by omega) rfl HO.out HZ.out HP.out HB.out dI.out aX.out
          case measure=>simp [intOf]
      · clear hk vQ
        have hc:wr.cell? ⟨W.heap.size+1,5,none⟩=some (.bool (fO s 5 5)):=HP.out.cell 5
        have hf:wr.frozen? ⟨W.heap.size+1,5,none⟩=false:=HP.out.frozen 5
        have ix:∀ W':World,(Instr.index 377 (.agg #[.pointer (some ⟨W.heap.size+1,0,none⟩),.pointer (some ⟨W.heap.size+1,1,none⟩),.pointer (some ⟨W.heap.size+1,2,none⟩),.pointer (some ⟨W.heap.size+1,3,none⟩),.pointer (some ⟨W.heap.size+1,4,none⟩),.pointer (some ⟨W.heap.size+1,5,none⟩),.pointer (some ⟨W.heap.size+1,6,none⟩),.pointer (some ⟨W.heap.size+1,7,none⟩)]) (.int .i64 5)).run Tryz.prog W'=.ok (.pointer (some ⟨W.heap.size+1,5,none⟩)) W':=fun _=>aa3 _ _ _ _ _ _ _ _ _
        have HF:=Yh (vN s 5 (by omega))
        have HG:=Yh (vO s 5 (by omega))
        cases hL:(((s[5]'(by omega)).toNat:Int)==((({data:=#[118,114,119,120,117,103,97,100] }:ByteArray)[5]'(by decide)).toNat:Int))
        · cases hM:(((s[5]'(by omega)).toNat:Int) != 45)
          · have hfl:bF s 5=false:=HF.out.trans hL
            have hok:dB s 5=true:=by rw [HG.out,hfl,hM];rfl
            have dI:=Yh hfl
            have aX:=Yh hok
            clear hfl hok hz0 hz1 hz2 hz3 gq gu gy gz gB gD lZ
            go_wp2_with fail;refine wp_region_plan_by (bO (W.heap.size+1)) (bI _) [(0,false),(1,false),(2,false),(3,false),(4,false),(5,false),(6,false),(7,false),(8,true)] (by kernel_rfl) (by kernel_rfl) (fun _ d _ _ _ h=>by cases d <;> exact h) ?_
            iterate 8 (refine plan_take (v:=?_) rfl (by kernel_rfl) ?_ ?_;rotate_left;(focus (intro w' hw';try go_simp;try with_reducible rfl));simp only [Act.put,pa1,pa2,pa3])
            refine plan_turn rfl (by kernel_rfl) (fun K hK=>?_)
            go_simp
            refine hK _ _ ⟨gZ (gY ((bI _).refl _)),?_⟩
            refine aG ?_
            go_wp2
            go_roundw
            case rel=>exact lY (by omega) rfl HO.out HZ.out HP.out HB.out dI.out aX.out
            case measure=>simp [intOf]
          · have hfl:bF s 5=false:=HF.out.trans hL
            have hok:dB s 5=false:=by rw [HG.out,hfl,hM];rfl
            have aX:=Yh hok
            clear hfl hok
            go_wp2_with fail;refine wp_region_plan_by (bO (W.heap.size+1)) (bI _) [(0,false),(1,false),(2,false),(3,false),(4,false),(5,false),(6,false),(7,false),(8,true)] (by kernel_rfl) (by kernel_rfl) (fun _ d _ _ _ h=>by cases d <;> exact h) ?_
            iterate 8 (refine plan_take (v:=?_) rfl (by kernel_rfl) ?_ ?_;rotate_left;(focus (intro w' hw';try go_simp;try with_reducible rfl));simp only [Act.put,pa1,pa2,pa3])
            refine plan_turn rfl (by kernel_rfl) (fun K hK=>?_)
            go_simp
            refine hK _ _ ⟨gZ (gY ((bI _).refl _)),?_⟩
            refine aG ?_
            go_wp2;refine bodyPost_ret (v:=.tuple #[.agg #[.bool false,.bool false,.bool false,.bool false,.bool false,.bool false,.bool false,.bool false,.int .i64 0,.int .u64 0],.bool false]) (by simp [results,Tryz.results170,go_sem,hz0,hz1,hz2,hz3,gq,gu,gy,gz,gB,gD]) rfl ⟨?_,?_⟩
            · rw [qA,vP (by omega) aX.out,if_neg (by decide)]
            · have hB:=HB.out
              repeat (first|(with_reducible exact hB)|(with_reducible refine Below.drew ?_)|(with_reducible refine Below.setCell ?_ (by simp) _))
        · have hfl:bF s 5=true:=HF.out.trans hL
          have hok:dB s 5=true:=by rw [HG.out,hfl];rfl
          have dI:=Yh hfl
          have aX:=Yh hok
          clear hfl hok hz0 hz1 hz2 hz3 gq gu gy gz gB gD lZ
          go_wp2_with fail;refine wp_region_plan_by (bO (W.heap.size+1)) (bI _) [(0,false),(1,false),(2,false),(3,false),(4,false),(5,false),(6,false),(7,false),(8,true)] (by kernel_rfl) (by kernel_rfl) (fun _ d _ _ _ h=>by cases d <;> exact h) ?_
          iterate 8 (refine plan_take (v:=?_) rfl (by kernel_rfl) ?_ ?_;rotate_left;(focus (intro w' hw';try go_simp;try with_reducible rfl));simp only [Act.put,pa1,pa2,pa3])
          refine plan_turn rfl (by kernel_rfl) (fun K hK=>?_)
          go_simp
          refine hK _ _ ⟨gZ (gY ((bI _).refl _)),?_⟩
          refine aG ?_
          go_wp2
          go_roundw
          case rel=>exact lY (by omega) rfl HO.out HZ.out HP.out HB.out dI.out aX.out
          case measure=>simp [intOf]
      · clear hk vQ
        have hc:wr.cell? ⟨W.heap.size+1,6,none⟩=some (.bool (fO s 6 6)):=HP.out.cell 6
        have hf:wr.frozen? ⟨W.heap.size+1,6,none⟩=false:=HP.out.frozen 6
        have ix:∀ W':World,(Instr.index 377 (.agg #[.pointer (some ⟨W.heap.size+1,0,none⟩),.pointer (some ⟨W.heap.size+1,1,none⟩),.pointer (some ⟨W.heap.size+1,2,none⟩),.pointer (some ⟨W.heap.size+1,3,none⟩),.pointer (some ⟨W.heap.size+1,4,none⟩),.pointer (some ⟨W.heap.size+1,5,none⟩),.pointer (some ⟨W.heap.size+1,6,none⟩),.pointer (some ⟨W.heap.size+1,7,none⟩)]) (.int .i64 6)).run Tryz.prog W'=.ok (.pointer (some ⟨W.heap.size+1,6,none⟩)) W':=fun _=>aa4 _ _ _ _ _ _ _ _ _
        have HF:=Yh (vN s 6 (by omega))
        have HG:=Yh (vO s 6 (by omega))
        cases hL:(((s[6]'(by omega)).toNat:Int)==((({data:=#[118,114,119,120,117,103,97,100] }:ByteArray)[6]'(by decide)).toNat:Int))
        · cases hM:(((s[6]'(by omega)).toNat:Int) != 45)
          · have hfl:bF s 6=false:=HF.out.trans hL
            have hok:dB s 6=true:=by rw [HG.out,hfl,hM];rfl
            have dI:=Yh hfl
            have aX:=Yh hok
            clear hfl hok hz0 hz1 hz2 hz3 gq gu gy gz gB gD lZ
            go_wp2_with fail;refine wp_region_plan_by (bO (W.heap.size+1)) (bI _) [(0,false),(1,false),(2,false),(3,false),(4,false),(5,false),(6,false),(7,false),(8,true)] (by kernel_rfl) (by kernel_rfl) (fun _ d _ _ _ h=>by cases d <;> exact h) ?_
            iterate 8 (refine plan_take (v:=?_) rfl (by kernel_rfl) ?_ ?_;rotate_left;(focus (intro w' hw';try go_simp;try with_reducible rfl));simp only [Act.put,pa1,pa2,pa3])
            refine plan_turn rfl (by kernel_rfl) (fun K hK=>?_)
            go_simp
            refine hK _ _ ⟨gZ (gY ((bI _).refl _)),?_⟩
            refine aG ?_
            go_wp2
            go_roundw
            case rel=>exact lY (by omega) rfl HO.out HZ.out HP.out HB.out dI.out aX.out
            case measure=>simp [intOf]
          · have hfl:bF s 6=false:=HF.out.trans hL
            have hok:dB s 6=false:=by rw [HG.out,hfl,hM];rfl
            have aX:=Yh hok
            clear hfl hok
            go_wp2_with fail;refine wp_region_plan_by (bO (W.heap.size+1)) (bI _) [(0,false),(1,false),(2,false),(3,false),(4,false),(5,false),(6,false),(7,false),(8,true)] (by kernel_rfl) (by kernel_rfl) (fun _ d _ _ _ h=>by cases d <;> exact h) ?_
            iterate 8 (refine plan_take (v:=?_) rfl (by kernel_rfl) ?_ ?_;rotate_left;(focus (intro w' hw';try go_simp;try with_reducible rfl));simp only [Act.put,pa1,pa2,pa3])
            refine plan_turn rfl (by kernel_rfl) (fun K hK=>?_)
            go_simp
            refine hK _ _ ⟨gZ (gY ((bI _).refl _)),?_⟩
            refine aG ?_
            go_wp2;refine bodyPost_ret (v:=.tuple #[.agg #[.bool false,.bool false,.bool false,.bool false,.bool false,.bool false,.bool false,.bool false,.int .i64 0,.int .u64 0],.bool false]) (by simp [results,Tryz.results170,go_sem,hz0,hz1,hz2,hz3,gq,gu,gy,gz,gB,gD]) rfl ⟨?_,?_⟩
            · rw [qA,vP (by omega) aX.out,if_neg (by decide)]
            · have hB:=HB.out
              repeat (first|(with_reducible exact hB)|(with_reducible refine Below.drew ?_)|(with_reducible refine Below.setCell ?_ (by simp) _))
        · have hfl:bF s 6=true:=HF.out.trans hL
          have hok:dB s 6=true:=by rw [HG.out,hfl];rfl
          have dI:=Yh hfl
          have aX:=Yh hok
          clear hfl hok hz0 hz1 hz2 hz3 gq gu gy gz gB gD lZ
          go_wp2_with fail;refine wp_region_plan_by (bO (W.heap.size+1)) (bI _) [(0,false),(1,false),(2,false),(3,false),(4,false),(5,false),(6,false),(7,false),(8,true)] (by kernel_rfl) (by kernel_rfl) (fun _ d _ _ _ h=>by cases d <;> exact h) ?_
          iterate 8 (refine plan_take (v:=?_) rfl (by kernel_rfl) ?_ ?_;rotate_left;(focus (intro w' hw';try go_simp;try with_reducible rfl));simp only [Act.put,pa1,pa2,pa3])
          refine plan_turn rfl (by kernel_rfl) (fun K hK=>?_)
          go_simp
          refine hK _ _ ⟨gZ (gY ((bI _).refl _)),?_⟩
          refine aG ?_
          go_wp2
          go_roundw
          case rel=>exact lY (by omega) rfl HO.out HZ.out HP.out HB.out dI.out aX.out
          case measure=>simp [intOf]
      · clear hk vQ
        have hc:wr.cell? ⟨W.heap.size+1,7,none⟩=some (.bool (fO s 7 7)):=HP.out.cell 7
        have hf:wr.frozen? ⟨W.heap.size+1,7,none⟩=false:=HP.out.frozen 7
        have ix:∀ W':World,(Instr.index 377 (.agg #[.pointer (some ⟨W.heap.size+1,0,none⟩),.pointer (some ⟨W.heap.size+1,1,none⟩),.pointer (some ⟨W.heap.size+1,2,none⟩),.pointer (some ⟨W.heap.size+1,3,none⟩),.pointer (some ⟨W.heap.size+1,4,none⟩),.pointer (some ⟨W.heap.size+1,5,none⟩),.pointer (some ⟨W.heap.size+1,6,none⟩),.pointer (some ⟨W.heap.size+1,7,none⟩)]) (.int .i64 7)).run Tryz.prog W'=.ok (.pointer (some ⟨W.heap.size+1,7,none⟩)) W':=fun _=>aa5 _ _ _ _ _ _ _ _ _
        have HF:=Yh (vN s 7 (by omega))
        have HG:=Yh (vO s 7 (by omega))
        cases hL:(((s[7]'(by omega)).toNat:Int)==((({data:=#[118,114,119,120,117,103,97,100] }:ByteArray)[7]'(by decide)).toNat:Int))
        · cases hM:(((s[7]'(by omega)).toNat:Int) != 45)
          · have hfl:bF s 7=false:=HF.out.trans hL
            have hok:dB s 7=true:=by rw [HG.out,hfl,hM];rfl
            have dI:=Yh hfl
            have aX:=Yh hok
            clear hfl hok hz0 hz1 hz2 hz3 gq gu gy gz gB gD lZ
            go_wp2_with fail;refine wp_region_plan_by (bO (W.heap.size+1)) (bI _) [(0,false),(1,false),(2,false),(3,false),(4,false),(5,false),(6,false),(7,false),(8,true)] (by kernel_rfl) (by kernel_rfl) (fun _ d _ _ _ h=>by cases d <;> exact h) ?_
            iterate 8 (refine plan_take (v:=?_) rfl (by kernel_rfl) ?_ ?_;rotate_left;(focus (intro w' hw';try go_simp;try with_reducible rfl));simp only [Act.put,pa1,pa2,pa3])
            refine plan_turn rfl (by kernel_rfl) (fun K hK=>?_)
            go_simp
            refine hK _ _ ⟨gZ (gY ((bI _).refl _)),?_⟩
            refine aG ?_
            go_wp2
            go_roundw
            case rel=>exact lY (by omega) rfl HO.out HZ.out HP.out HB.out dI.out aX.out
            case measure=>simp [intOf]
          · have hfl:bF s 7=false:=HF.out.trans hL
            have hok:dB s 7=false:=by rw [HG.out,hfl,hM];rfl
            have aX:=Yh hok
            clear hfl hok
            go_wp2_with fail;refine wp_region_plan_by (bO (W.heap.size+1)) (bI _) [(0,false),(1,false),(2,false),(3,false),(4,false),(5,false),(6,false),(7,false),(8,true)] (by kernel_rfl) (by kernel_rfl) (fun _ d _ _ _ h=>by cases d <;> exact h) ?_
            iterate 8 (refine plan_take (v:=?_) rfl (by kernel_rfl) ?_ ?_;rotate_left;(focus (intro w' hw';try go_simp;try with_reducible rfl));simp only [Act.put,pa1,pa2,pa3])
            refine plan_turn rfl (by kernel_rfl) (fun K hK=>?_)
            go_simp
            refine hK _ _ ⟨gZ (gY ((bI _).refl _)),?_⟩
            refine aG ?_
            go_wp2;refine bodyPost_ret (v:=.tuple #[.agg #[.bool false,.bool false,.bool false,.bool false,.bool false,.bool false,.bool false,.bool false,.int .i64 0,.int .u64 0],.bool false]) (by simp [results,Tryz.results170,go_sem,hz0,hz1,hz2,hz3,gq,gu,gy,gz,gB,gD]) rfl ⟨?_,?_⟩
            · rw [qA,vP (by omega) aX.out,if_neg (by decide)]
            · have hB:=HB.out
              repeat (first|(with_reducible exact hB)|(with_reducible refine Below.drew ?_)|(with_reducible refine Below.setCell ?_ (by simp) _))
        · have hfl:bF s 7=true:=HF.out.trans hL
          have hok:dB s 7=true:=by rw [HG.out,hfl];rfl
          have dI:=Yh hfl
          have aX:=Yh hok
          clear hfl hok hz0 hz1 hz2 hz3 gq gu gy gz gB gD lZ
          go_wp2_with fail;refine wp_region_plan_by (bO (W.heap.size+1)) (bI _) [(0,false),(1,false),(2,false),(3,false),(4,false),(5,false),(6,false),(7,false),(8,true)] (by kernel_rfl) (by kernel_rfl) (fun _ d _ _ _ h=>by cases d <;> exact h) ?_
          iterate 8 (refine plan_take (v:=?_) rfl (by kernel_rfl) ?_ ?_;rotate_left;(focus (intro w' hw';try go_simp;try with_reducible rfl));simp only [Act.put,pa1,pa2,pa3])
          refine plan_turn rfl (by kernel_rfl) (fun K hK=>?_)
          go_simp
          refine hK _ _ ⟨gZ (gY ((bI _).refl _)),?_⟩
          refine aG ?_
          go_wp2
          go_roundw
          case rel=>exact lY (by omega) rfl HO.out HZ.out HP.out HB.out dI.out aX.out
          case measure=>simp [intOf]
def iq (a l0 l1 l2:Int):Int:=if a==0 then l0 else if a==1 then l1 else if a==2 then l2 else -1
theorem PQ (a:Int) (b:Bool) (W:World) (h:b=decide (0≤a∧a≤2)):
    Calls Tryz.prog 330 #[.int .i64 a] W fun e w'=>e=.returned (.bool b)∧W=w':=by
  rcases (show (0≤a∧a≤2)∨a<0∨2<a by omega) with h1|h1|h1
  · have e:b=true:=by rw [h];simpa using h1
    subst e;obtain ⟨h1,h2⟩:=h1
    clear h;go_enter Tryz.func330,Tryz.ntmps330;go_wp2;go_ret
    exact ⟨rfl,rfl⟩
  · have e:b=false:=by rw [h];simp;omega
    subst e;clear h;have h2:decide (0≤a)=false:=by simp;omega
    go_enter Tryz.func330,Tryz.ntmps330;go_wp2;go_ret
    exact ⟨rfl,rfl⟩
  · have e:b=false:=by rw [h];simp;omega
    subst e;clear h;have h2:decide (a≤2)=false:=by simp;omega
    have h3:0≤a:=by omega
    go_enter Tryz.func330,Tryz.ntmps330;go_wp2;go_ret
    exact ⟨rfl,rfl⟩
theorem I7 (a l0 l1 l2:Int) (W:World):
    Calls Tryz.prog 305 #[.int .i64 a,.agg #[.int .i64 l0,.int .i64 l1,.int .i64 l2]] W fun e w'=>e=.returned (.int .i64 (iq a l0 l1 l2))∧W.alloc (.cells #[.int .i64 l0,.int .i64 l1,.int .i64 l2] 460)=w':=by
  rcases (show a=0∨a=1∨a=2∨(a<0∨2<a) by omega) with rfl|rfl|rfl|h
  iterate 3
    go_enter Tryz.func305,Tryz.ntmps305
    go_wp2_with (go_at_call 330;refine (PQ _ true _ (by decide)).mono ?_;rintro e w' ⟨rfl,rfl⟩)
    go_ret
    exact ⟨rfl,rfl⟩
  · have e:iq a l0 l1 l2 = -1:=by
      unfold iq;rw [if_neg (by simp;omega),if_neg (by simp;omega),if_neg (by simp;omega)]
    rw [e];clear e;have H:=Yh h
    clear h;go_enter Tryz.func305,Tryz.ntmps305
    go_wp2_with (go_at_call 330;refine (PQ _ false _ (by have h:=H.out;simp;omega)).mono ?_;rintro e w' ⟨rfl,rfl⟩)
    go_ret
    exact ⟨rfl,rfl⟩
theorem PR (a:Int) (W:World):
    Calls Tryz.prog 268 #[.int .i64 a] W fun e w'=>e=.returned (.int .i64 (iq a 12 13 15))∧W.alloc (.cells #[.int .i64 12,.int .i64 13,.int .i64 15] 460)=w':=by
  go_enter Tryz.func268,Tryz.ntmps268
  go_wp2_with (go_at_call 305;refine (I7 _ _ _ _ _).mono ?_;rintro e w' ⟨rfl,rfl⟩)
  go_ret
  exact ⟨rfl,rfl⟩
theorem PS (a:Int) (W:World):
    Calls Tryz.prog 270 #[.int .i64 a] W fun e w'=>e=.returned (.int .i64 (iq a 1 5 7))∧W.alloc (.cells #[.int .i64 1,.int .i64 5,.int .i64 7] 460)=w':=by
  go_enter Tryz.func270,Tryz.ntmps270
  go_wp2_with (go_at_call 305;refine (I7 _ _ _ _ _).mono ?_;rintro e w' ⟨rfl,rfl⟩)
  go_ret
  exact ⟨rfl,rfl⟩
theorem aa7 (a:Int) (W:World):
    Calls Tryz.prog 265 #[.int .i64 a] W fun e w'=>e=.returned (.int .i64 (iq a 0 4 6))∧W.alloc (.cells #[.int .i64 0,.int .i64 4,.int .i64 6] 460)=w':=by
  go_enter Tryz.func265,Tryz.ntmps265
  go_wp2_with (go_at_call 305;refine (I7 _ _ _ _ _).mono ?_;rintro e w' ⟨rfl,rfl⟩)
  go_ret
  exact ⟨rfl,rfl⟩
def lI:Fd→Tf
  | .err _=>dS
  | .leaf x l a=>⟨af x 0,af x 1,af x 2,af x 3,af x 4,af x 5,af x 6,af x 7,(x:Int) / 256 % 4,x / 1024 % 17592186044416,(l:Int),a⟩
theorem aa8 (f:Fd):(lI f).val=qh f:=by
  cases f with
  | err e=>rfl
  | leaf x l a =>
    show Value.agg _=Value.agg _
    simp [lI]
structure Un where
  (on:Bool)
  (ak:Int)
  (ag:Nat)
  (user sum iG:Bool)
def Un.cs (u:Un) (m b:Nat):Array Value:=#[.pointer (some ⟨m,0,none⟩),.pointer (some ⟨b,0,none⟩),.bool u.on,.int .i64 u.ak,.int .u64 (u.ag:Int),.bool u.user,.bool u.sum,.bool u.iG]
def dR (n:Nat) (S:Nat→List Nat) (T:List (List En)) (u:Un) (va:Nat) (a pick:Int):Tf × Int × List (List En):=
  match j3 T va u.ak with
  | some lf=>(lf,-1,T)
  | none =>
    if jO (fP n S u.on u.ag va)=0 then (lI (fP n S u.on u.ag va),-1,kN T va u.ak (lI (fP n S u.on u.ag va)) pick)
    else (lI (fP n S u.on u.ag va),if jO (fP n S u.on u.ag va)=61 then iq a 1 5 7 else iq a 12 13 15,T)
def bB (n:Nat) (S:Nat→List Nat) (T:List (List En)) (u:Un) (va:Nat) (size a pick:Int):Nat × Int × List (List En):=
  if fC va size then
    if (dR n S T u va a pick).2.1 = -1 then
      if yC (dR n S T u va a pick).1.v (dR n S T u va a pick).1.r (dR n S T u va a pick).1.w (dR n S T u va a pick).1.x (dR n S T u va a pick).1.u (dR n S T u va a pick).1.a (dR n S T u va a pick).1.d a u.user u.sum u.iG then
        if pF (dR n S T u va a pick).1.ag va (dR n S T u va a pick).1.aj / 4096<n then (pF (dR n S T u va a pick).1.ag va (dR n S T u va a pick).1.aj,-1,(dR n S T u va a pick).2.2)
        else (0,iq a 1 5 7,(dR n S T u va a pick).2.2)
      else (0,iq a 12 13 15,(dR n S T u va a pick).2.2)
    else (0,(dR n S T u va a pick).2.1,(dR n S T u va a pick).2.2)
  else (0,iq a 0 4 6,T)
def fill (a:Act) (x:Nat→Value):List (Nat × Option Tmp)→Act
  | []=>a
  | p::r=>fill (a.put p.2 (x p.1)) x r
def upd (x:Nat→Value) (i:Nat) (v:Value):Nat→Value:=fun j=>if j=i then v else x j
def Ea (p q:Nat × Option Tmp):Bool:=q.1==p.1||(p.2.isSome&&q.2==p.2)
def Ay:List (Nat × Option Tmp)→Bool
  | []=>true
  | p::r=>r.all (fun q=>!Ea p q)&&Ay r
def kL (n:Nat) (l:List Nat):Array Bool:=l.foldl (fun a i=>a.setIfInBounds i true) (Array.replicate n false)
theorem aa9 (a:Act) (d:Option Tmp) (u v:Value):(a.put d u).put d v=a.put d v:=by
  cases d with
  | none=>rfl
  | some d=>simp [Act.put]
theorem PU (x:Nat→Value) (d:Option Tmp) (v:Value):∀ (r:List (Nat × Option Tmp)) (a:Act),(∀ q∈r,d.isSome=true→q.2≠d)→(fill a x r).put d v=fill (a.put d v) x r
  | [],_,_=>rfl
  | q::r,a,h=>by
    have h1:=h q (by simp)
    show (fill (a.put q.2 (x q.1)) x r).put d v=fill ((a.put d v).put q.2 (x q.1)) x r
    rw [PU x d v r _ (fun q hq=>h q (by simp [hq]))]
    congr 1
    refine Act.put_comm a _ _ fun e he hd=>?_
    exact h1 (by rw [hd];rfl) (by rw [he,hd])
theorem PV (x:Nat→Value) (i:Nat) (v:Value):∀ (r:List (Nat × Option Tmp)) (a:Act),(∀ q∈r,q.1≠i)→fill a (upd x i v) r=fill a x r
  | [],_,_=>rfl
  | q::r,a,h=>by
    show fill (a.put q.2 (upd x i v q.1)) (upd x i v) r=fill (a.put q.2 (x q.1)) x r
    rw [PV x i v r _ (fun q hq=>h q (by simp [hq])),show upd x i v q.1=x q.1 from if_neg (h q (by simp))]
theorem LF (x:Nat→Value) (i:Nat) (d:Option Tmp) (v:Value):∀ (r:List (Nat × Option Tmp)) (a:Act),Ay r=true→(i,d)∈r→(fill a x r).put d v=fill a (upd x i v) r
  | [],_,_,h=>by simp at h
  | p::r,a,hp,h=>by
    simp only [Ay,Bool.and_eq_true,List.all_eq_true,Bool.not_eq_true'] at hp
    have hc:=hp.1
    rcases List.mem_cons.1 h with rfl|h
    · show (fill (a.put d (x i)) x r).put d v=fill (a.put d (upd x i v i)) (upd x i v) r
      rw [PU x d v r _ (fun q hq hd=>by
        have:=hc q hq
        simp only [Ea,hd,Bool.true_and,Bool.or_eq_false_iff,beq_eq_false_iff_ne] at this
        exact this.2),aa9,PV x i v r _ (fun q hq=>by
        have:=hc q hq
        simp only [Ea,Bool.or_eq_false_iff,beq_eq_false_iff_ne] at this
        exact this.1),show upd x i v i=v from if_pos rfl]
    · show (fill (a.put p.2 (x p.1)) x r).put d v=fill (a.put p.2 (upd x i v p.1)) (upd x i v) r
      have:=hc _ h
      simp only [Ea,Bool.or_eq_false_iff,beq_eq_false_iff_ne] at this
      rw [LF x i d v r _ hp.2 h,show upd x i v p.1=x p.1 from if_neg (fun e=>this.1 e.symm)]
def slotsOf (a:Act) (ds:List (Nat × Option Tmp)) (i:Nat):Value:=
  match ds.find? (fun p=>p.1==i) with
  | some (_,some d)=>a.tmps.getD d undef
  | _=>undef
theorem aba (t:Array Value) (d:Nat):t.setIfInBounds d (t.getD d undef)=t:=by
  apply Array.ext_getElem?
  intro i;rw [Array.getElem?_setIfInBounds];by_cases h:d=i
  · subst h
    rw [if_pos rfl];by_cases hd:d<t.size
    · simp [hd]
    · simp [hd]
  · rw [if_neg h]
theorem abb (a:Act) (d:Nat):a.put (some d) (a.tmps.getD d undef)=a:=by
  show ({a with tmps:=a.tmps.setIfInBounds d (a.tmps.getD d undef) }:Act)=a
  rw [aba]
theorem LG (ds:List (Nat × Option Tmp)) (a:Act):∀ (r:List (Nat × Option Tmp)),(∀ p∈r,ds.find? (fun q=>q.1==p.1)=some p)→fill a (slotsOf a ds) r=a
  | [],_=>rfl
  | p::r,h=>by
    have h1:=h p (by simp)
    show fill (a.put p.2 (slotsOf a ds p.1)) (slotsOf a ds) r=a
    have e:a.put p.2 (slotsOf a ds p.1)=a:=by
      unfold slotsOf;rw [h1]
      cases hp:p.2 with
      | none=>rfl
      | some d =>
        obtain ⟨i,d'⟩:=p
        simp only at hp
        subst hp;exact abb a d
    rw [e];exact LG ds a r (fun q hq=>h q (by simp [hq]))
section
variable {P:Program} {ls:List Oper} {Q:Exit→Act→World→Prop} {R:World→World→Prop}
def CK {α:Type} (f:α→Prop):List α→Prop
  | []=>True
  | a::r=>f a∧CK f r
theorem LD {α:Type} {f:α→Prop}:∀ {l:List α},CK f l→∀ a∈l,f a
  | [],_,_,h=>by simp at h
  | b::r,h,a,ha=>by
    rcases List.mem_cons.1 ha with rfl|ha
    · exact h.1
    · exact LD h.2 a ha
def abK (ls:List Oper) (ds:List (Nat × Option Tmp)) (L:Array Bool):Bool:=
  Ay ds&&ds.all (fun p=>ds.find? (fun q=>q.1==p.1)==some p&&L.getD p.1 true==false&&(match opAt ls p.1 with|some o=>o.dst==p.2&&o.after.all (fun e=>!Region.binds .any e||(Nat.blt e.on p.1&&(L.getD e.on false||ds.any (fun q=>q.1==e.on))))|none=>false)) &&
  (List.range L.size).all (fun i=>L.getD i true||ds.any (fun q=>q.1==i)||ds.all (fun p=>(match opAt ls i with|some o=>o.after.any (fun e=>Region.binds .any e&&e.on==p.1)|none=>false)))
def qF (L:Array Bool) (ds:List (Nat × Option Tmp)):Array Bool:=ds.foldl (fun a p=>a.setIfInBounds p.1 true) L
theorem TI (ds:List (Nat × Option Tmp)):∀ (L:Array Bool),(qF L ds).size=L.size:=by
  induction ds with
  | nil=>intro L;rfl
  | cons p r ih=>intro L;show (qF (L.setIfInBounds p.1 true) r).size=_;rw [ih,Array.size_setIfInBounds]
theorem TJ (ds:List (Nat × Option Tmp)):∀ (L:Array Bool) (i:Nat),(qF L ds).getD i true=(L.getD i true||ds.any (fun p=>p.1==i)):=by
  induction ds with
  | nil=>intro L i;simp [qF]
  | cons p r ih =>
    intro L i;show (qF (L.setIfInBounds p.1 true) r).getD i true=_
    rw [ih,List.any_cons];by_cases h:p.1=i
    · subst h
      have:(L.setIfInBounds p.1 true).getD p.1 true=true:=by simp [Array.getD]
      rw [this];simp
    · rw [getD_set_ne true h,beq_eq_false_iff_ne.2 h,Bool.false_or]
theorem TH {a b:Array Bool} (hs:a.size=b.size) (h:∀ i,a.getD i true=b.getD i true):a=b:=by
  apply Array.ext hs
  intro i h1 h2;have:=h i
  simpa [Array.getD,h1,h2] using this
end
end Go.Proofs.YtnebdlchogmneaaGreatDoor
