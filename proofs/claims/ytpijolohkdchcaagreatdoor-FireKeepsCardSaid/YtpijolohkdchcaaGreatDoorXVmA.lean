/- A part of the proof; what it holds is told at each theorem. -/
import Derived.WalkKit
import Derived.ProofKit
import Derived.MapKept
import Derived.Maps.RangeRun
import Derived.RangeFuncRecord
import Derived.RangeFuncLeaves
import Derived.LoopNIn
import Derived.OrdersIn
import Derived.TacticsIn
set_option linter.unusedVariables false
set_option linter.unusedSimpArgs false
set_option linter.unusedSectionVars false
set_option linter.deprecated false
namespace Go.Vm
open Go Go.RowKit
inductive V where
 | b (x:Bool)
 | i (k:IntKind) (n:Int)
 | s (x:ByteArray)
 | sl (z:Nat) (rows:List (List V))
 | ro (cs:List V)
 | own (o n:Nat)
 | loc (o i d:Nat)
 | map (o:Nat)
 | agg (cs:List V)
 | tup (cs:List V)
 | clo (fn:Fn) (first caps:List V)
 | ifc (t:TypeId) (x:V)
 | lit (x:Value)
 | J
def V.one : V→Bool
 | .agg _=>false
 | .tup _=>false
 | .J=>false
 | .lit (.agg _)=>false
 | .lit (.tuple _)=>false
 | _=>true
def QjA (z:Nat)(r:List V):Prop:=r.length=z∧∀v∈r,v.one=true
inductive Dat (I:Nat→Prop) (w:World):Value→V→Prop where
 | b (x:Bool):Dat I w (.bool x) (.b x)
 | i (k:IntKind) (n:Int):Dat I w (.int k n) (.i k n)
 | s (x:ByteArray):Dat I w (.string x) (.s x)
 | lit (x:Value):Dat I w x (.lit x)
 | J (x:Value):Dat I w x .J
 | sl0 (a:Option Addr) (cap z:Nat):Dat I w (.slice a 0 cap) (.sl z [])
 | sl (b off len cap z:Nat) (rows:List (List V)) (c:Nat→Value):I b→len=rows.length→len≤cap→(∀r∈rows,QjA z r)→
   (∀j,j<len*z→w.cell? ⟨b,off+j,none⟩=some (c j))→
   (∀(i:Nat) r,rows[i]? = some r→∀(j:Nat) v,r[j]? = some v→Dat I w (c (i*z+j)) v)→Dat I w (.slice (some ⟨b,off,none⟩) len cap) (.sl z rows)
 | ro (b off:Nat) (cs:List V) (c:Nat→Value):I b→(∀v∈cs,v.one=true)→(∀j,j<cs.length→w.cell? ⟨b,off+j,none⟩=some (c j))→
   (∀(j:Nat) v,cs[j]? = some v→Dat I w (c j) v)→Dat I w (.pointer (some ⟨b,off,none⟩)) (.ro cs)
 | agg (xs:Array Value) (cs:List V):xs.size=cs.length→(∀(j:Nat) x v,xs[j]? = some x→cs[j]? = some v→Dat I w x v)→Dat I w (.agg xs) (.agg cs)
 | tup (xs:Array Value) (cs:List V):xs.size=cs.length→(∀(j:Nat) x v,xs[j]? = some x→cs[j]? = some v→Dat I w x v)→Dat I w (.tuple xs) (.tup cs)
 | ifc (t:TypeId) (x:Value) (v:V):Dat I w x v→Dat I w (.iface t x) (.ifc t v)
theorem Dat.monoC {I I':Nat→Prop}{w w':World}(h:∀k,I k→I' k∧∀i,w'.cell? ⟨k,i,none⟩=w.cell? ⟨k,i,none⟩){x:Value}{v:V}(d:Dat I w x v):Dat I' w' x v:=by
 induction d with
 | b x=>exact .b x
 | i k n=>exact .i k n
 | s x=>exact .s x
 | lit x=>exact .lit x
 | J x=>exact .J x
 | sl0 a cap z=>exact .sl0 a cap z
 | sl b off len cap z rows c hI hl hc hr hcell _ ih=>
  exact .sl b off len cap z rows c (h b hI).1 hl hc hr (fun j hj=>((h b hI).2 _).trans (hcell j hj)) ih
 | ro b off cs c hI ho hcell _ ih=>
  exact .ro b off cs c (h b hI).1 ho (fun j hj=>((h b hI).2 _).trans (hcell j hj)) ih
 | agg xs cs hs _ ih=>exact .agg xs cs hs ih
 | tup xs cs hs _ ih=>exact .tup xs cs hs ih
 | ifc t x v _ ih=>exact .ifc t x v ih
theorem Dat.mono {I I':Nat→Prop}{w w':World}(h:∀k,I k→I' k∧w'.heap[k]? = w.heap[k]?){x:Value}{v:V}(d:Dat I w x v):Dat I' w' x v:=
 d.monoC (fun k hk=>⟨(h k hk).1,fun i=>World.cell?_of_block (h k hk).2⟩)
structure Blk where
 b:Nat
 cap:Nat
 z:Nat
 more:List Nat:=[]
 off:Nat:=0
def Blk.has (B:Blk)(k:Nat):Prop:=k=B.b∨k∈B.more
theorem Blk.self (B:Blk):B.has B.b:=.inl rfl
inductive Rep (φ:Nat→Option Blk) (I:Nat→Prop) (w:World):Value→V→Prop where
 | dat {x:Value} {v:V}:Dat I w x v→Rep φ I w x v
 | own0 (o:Nat):Rep φ I w (.slice none 0 0) (.own o 0)
 | own (o n:Nat) (B:Blk):φ o=some B→n≤B.cap→Rep φ I w (.slice (some ⟨B.b,B.off,none⟩) n B.cap) (.own o n)
 | loc (o i d:Nat) (B:Blk):φ o=some B→Rep φ I w (.pointer (some ⟨B.b,B.off+(i*B.z+d),none⟩)) (.loc o i d)
 | map (o:Nat) (B:Blk):φ o=some B→Rep φ I w (.map (some B.b)) (.map o)
 | agg (xs:Array Value) (cs:List V):xs.size=cs.length→(∀(j:Nat) x v,xs[j]? = some x→cs[j]? = some v→Rep φ I w x v)→Rep φ I w (.agg xs) (.agg cs)
 | tup (xs:Array Value) (cs:List V):xs.size=cs.length→(∀(j:Nat) x v,xs[j]? = some x→cs[j]? = some v→Rep φ I w x v)→Rep φ I w (.tuple xs) (.tup cs)
 | ifc (t:TypeId) (x:Value) (v:V):Rep φ I w x v→Rep φ I w (.iface t x) (.ifc t v)
 | clo (fn:Fn) (xs ys:Array Value) (vs us:List V):xs.size=vs.length→ys.size=us.length→(∀(j:Nat) x v,xs[j]? = some x→vs[j]? = some v→Rep φ I w x v)→
   (∀(j:Nat) x v,ys[j]? = some x→us[j]? = some v→Rep φ I w x v)→Rep φ I w (.func fn xs ys) (.clo fn vs us)
theorem Rep.monoC {φ φ':Nat→Option Blk}{I I':Nat→Prop}{w w':World}(hφ:∀o B,φ o=some B→φ' o=some B)(h:∀k,I k→I' k∧∀i,w'.cell? ⟨k,i,none⟩=w.cell? ⟨k,i,none⟩){x:Value}{v:V}
  (d:Rep φ I w x v):Rep φ' I' w' x v:=by
 induction d with
 | dat d=>exact .dat (d.monoC h)
 | own0 o=>exact .own0 o
 | own o n B hB hn=>exact .own o n B (hφ o B hB) hn
 | loc o i d B hB=>exact .loc o i d B (hφ o B hB)
 | map o B hB=>exact .map o B (hφ o B hB)
 | agg xs cs hs _ ih=>exact .agg xs cs hs ih
 | tup xs cs hs _ ih=>exact .tup xs cs hs ih
 | ifc t x v _ ih=>exact .ifc t x v ih
 | clo fn xs ys vs us h1 h2 _ _ ih1 ih2=>exact .clo fn xs ys vs us h1 h2 ih1 ih2
theorem Rep.mono {φ φ':Nat→Option Blk}{I I':Nat→Prop}{w w':World}(hφ:∀o B,φ o=some B→φ' o=some B)(h:∀k,I k→I' k∧w'.heap[k]? = w.heap[k]?){x:Value}{v:V}
  (d:Rep φ I w x v):Rep φ' I' w' x v:=
 d.monoC hφ (fun k hk=>⟨(h k hk).1,fun i=>World.cell?_of_block (h k hk).2⟩)
section inv
variable {φ:Nat→Option Blk}{I:Nat→Prop}{w:World}{x:Value}
theorem Rep.b_inv {y:Bool}(h:Rep φ I w x (.b y)):x=.bool y:=by
 cases h with
 | dat h=>cases h;rfl
theorem Rep.i_inv {k:IntKind}{n:Int}(h:Rep φ I w x (.i k n)):x=.int k n:=by
 cases h with
 | dat h=>cases h;rfl
theorem Rep.s_inv {y:ByteArray}(h:Rep φ I w x (.s y)):x=.string y:=by
 cases h with
 | dat h=>cases h;rfl
theorem Rep.lit_inv {y:Value}(h:Rep φ I w x (.lit y)):x=y:=by
 cases h with
 | dat h=>cases h;rfl
theorem Rep.agg_inv {cs:List V}(h:Rep φ I w x (.agg cs)):∃xs:Array Value,x=.agg xs∧xs.size=cs.length∧∀(j:Nat) x v,xs[j]? = some x→cs[j]? = some v→Rep φ I w x v:=by
 cases h with
 | dat h=>cases h with | agg xs _ hs hr=>exact⟨xs,rfl,hs,fun j x v h1 h2=>.dat (hr j x v h1 h2)⟩
 | agg xs _ hs hr=>exact⟨xs,rfl,hs,hr⟩
theorem Rep.tup_inv {cs:List V}(h:Rep φ I w x (.tup cs)):∃xs:Array Value,x=.tuple xs∧xs.size=cs.length∧∀(j:Nat) x v,xs[j]? = some x→cs[j]? = some v→Rep φ I w x v:=by
 cases h with
 | dat h=>cases h with | tup xs _ hs hr=>exact⟨xs,rfl,hs,fun j x v h1 h2=>.dat (hr j x v h1 h2)⟩
 | tup xs _ hs hr=>exact⟨xs,rfl,hs,hr⟩
theorem Rep.ro_inv {cs:List V}(h:Rep φ I w x (.ro cs)):∃b off,x=.pointer (some ⟨b,off,none⟩)∧I b∧(∀v∈cs,v.one=true)∧∃c:Nat→Value,(∀j,j<cs.length→w.cell? ⟨b,off+j,none⟩=some (c j))∧∀(j:Nat) v,cs[j]? = some v→Dat I w (c j) v:=by
 cases h with
 | dat h=>cases h with | ro b off _ c hI ho hc hr=>exact⟨b,off,rfl,hI,ho,c,hc,hr⟩
theorem Rep.loc_inv {o i d:Nat}(h:Rep φ I w x (.loc o i d)):∃B,φ o=some B∧x=.pointer (some ⟨B.b,B.off+(i*B.z+d),none⟩):=by
 cases h with
 | dat h=>cases h
 | loc _ _ _ B hB=>exact⟨B,hB,rfl⟩
theorem Rep.map_inv {o:Nat}(h:Rep φ I w x (.map o)):∃B,φ o=some B∧x=.map (some B.b):=by
 cases h with
 | dat h=>cases h
 | map _ B hB=>exact⟨B,hB,rfl⟩
theorem Rep.own_inv {o n:Nat}(h:Rep φ I w x (.own o n)):(x=.slice none 0 0∧n=0)∨∃B,φ o=some B∧n≤B.cap∧x=.slice (some ⟨B.b,B.off,none⟩) n B.cap:=by
 cases h with
 | dat h=>cases h
 | own0=>exact .inl ⟨rfl,rfl⟩
 | own _ _ B hB hn=>exact .inr ⟨B,hB,hn,rfl⟩
theorem Rep.sl_inv {z:Nat}{rows:List (List V)}(h:Rep φ I w x (.sl z rows)):
  (∃a cap,x=.slice a 0 cap∧rows=[])∨
  ∃b off cap,x=.slice (some ⟨b,off,none⟩) rows.length cap∧I b∧rows.length≤cap∧(∀r∈rows,QjA z r)∧
   ∃c:Nat→Value,(∀j,j<rows.length*z→w.cell? ⟨b,off+j,none⟩=some (c j))∧∀(i:Nat) r,rows[i]? = some r→∀(j:Nat) v,r[j]? = some v→Dat I w (c (i*z+j)) v:=by
 cases h with
 | dat h=>cases h with
  | sl0 a cap z=>exact .inl ⟨a,cap,rfl,rfl⟩
  | sl b off len cap z rows c hI hl hc hr hcell hd=>subst hl;exact .inr ⟨b,off,cap,rfl,hI,hc,hr,c,hcell,hd⟩
theorem Rep.ifc_inv {t:TypeId}{v:V}(h:Rep φ I w x (.ifc t v)):∃y,x=.iface t y∧Rep φ I w y v:=by
 cases h with
 | dat h=>cases h with | ifc _ y _ h=>exact⟨y,rfl,.dat h⟩
 | ifc _ y _ h=>exact⟨y,rfl,h⟩
theorem Rep.clo_inv {fn:Fn}{vs us:List V}(h:Rep φ I w x (.clo fn vs us)):∃xs ys:Array Value,x=.func fn xs ys∧xs.size=vs.length∧ys.size=us.length∧
  (∀(j:Nat) x v,xs[j]? = some x→vs[j]? = some v→Rep φ I w x v)∧∀(j:Nat) x v,ys[j]? = some x→us[j]? = some v→Rep φ I w x v:=by
 cases h with
 | dat h=>cases h
 | clo _ xs ys _ _ h1 h2 h3 h4=>exact⟨xs,ys,rfl,h1,h2,h3,h4⟩
end inv
structure Qga where
 fn:FuncId
 ps:Array Tmp
 assign:Code
 body:Code
inductive Ob where
 | var (cs:List V)
 | lp (l:Nat) (K:Qga) (cs:List V) (q:Nat)
 | arr (z:Nat) (rs:List (List V))
 | map (es:List (V×V))
 | grp (z:Nat) (es:List (V×List (List V))) (out:Option V)
 | mapX (bm clock:Nat) (L:List (MapEntry×(V×V))) (l:List (V×V))
 | itr (bm since:Nat) (seen:Array Nat) (cur:Option MapEntry)
 | itr0
def Qvg (φ:Nat→Option Blk)(I:Nat→Prop)(w:World)(B:Blk)(vs:List V):Prop:=
 ∃cs E,w.heap[B.b]? = some (.cells cs E (0,0))∧cs.size=vs.length∧B.off=0∧∀(j:Nat) x v,cs[j]? = some x→vs[j]? = some v→Rep φ I w x v
def QaC (I:Nat→Prop)(w:World)(B:Blk)(z:Nat)(rs:List (List V)):Prop:=
 B.z=z∧rs.length≤B.cap∧(∀r∈rs,QjA z r)∧∃cs E,w.heap[B.b]? = some (.cells cs E (0,0))∧B.off+B.cap*z≤cs.size∧
  ∀(i:Nat) r,rs[i]? = some r→∀(j:Nat) v,r[j]? = some v→∃x,cs[B.off+(i*z+j)]? = some x∧Dat I w x v
theorem QaC.mk0 {I:Nat→Prop}{w:World}{B:Blk}{z:Nat}{rs:List (List V)}(hz:B.z=z)(h0:B.off=0)(hl:rs.length≤B.cap)(hok:∀r∈rs,QjA z r)(cs:Array Value)(E:TypeId)
  (h1:w.heap[B.b]? = some (.cells cs E (0,0))) (h2:cs.size=B.cap*z) (h3:∀(i:Nat) r,rs[i]? = some r→∀(j:Nat) v,r[j]? = some v→∃x,cs[i*z+j]? = some x∧Dat I w x v):QaC I w B z rs:=
 ⟨hz,hl,hok,cs,E,h1,by rw [h0,Nat.zero_add];exact Nat.le_of_eq h2.symm,fun i r hi j v hj=>by rw [h0,Nat.zero_add];exact h3 i r hi j v hj⟩
def Qdy (I:Nat→Prop)(w:World)(B:Blk)(l:List (V×V)):Prop:=
 ∃es clock,w.heap[B.b]? = some (.map es clock)∧MapKept.Stamped es clock∧(l.map Prod.fst).Nodup∧es.size=l.length∧
  (∀x∈es.toList,∃p∈l,Dat I w x.key p.1∧Dat I w x.val p.2)∧∀p∈l,∃x∈es.toList,Dat I w x.key p.1∧Dat I w x.val p.2
def Qdz (I:Nat→Prop)(w:World)(B:Blk)(z:Nat)(l:List (V×List (List V)))(out:Option V):Prop:=
 ∃es clock,w.heap[B.b]? = some (.map es clock)∧MapKept.Stamped es clock∧(l.map Prod.fst).Nodup∧es.size=l.length∧
  ∃bs:List (Option Blk),bs.length=l.length∧B.more=bs.filterMap (Option.map Blk.b)∧(B.b::B.more).Nodup∧
   (∀(i:Nat) (x:MapEntry) E,es[i]? = some x→bs[i]? = some E→∃p∈l,Dat I w x.key p.1∧((∃F,E=some F∧F.more=[]∧out≠some p.1∧QaC I w F z p.2∧x.val=.slice (some ⟨F.b,F.off,none⟩) p.2.length F.cap)∨(E=none∧out=some p.1)))∧
   (∀p∈l,∃(i:Nat) (x:MapEntry),es[i]? = some x∧Dat I w x.key p.1)
def Qfl (I:Nat→Prop)(w:World)(B:Blk)(bm clock:Nat)(L:List (MapEntry×(V×V)))(l:List (V×V)):Prop:=
 B.b=bm∧w.heap[B.b]? = some (.map (L.map Prod.fst).toArray clock)∧MapKept.Stamped (L.map Prod.fst).toArray clock∧(l.map Prod.fst).Nodup∧(L.map Prod.snd).Perm l∧
  ∀q∈L,Dat I w q.1.key q.2.1∧Dat I w q.1.val q.2.2
def Qlv (w:World)(B:Blk)(bm since:Nat)(seen:Array Nat)(cur:Option MapEntry):Prop:=
 w.heap[B.b]? = some (.mapIter (some bm) since seen since)∧B.off=0∧∀x,cur=some x→∃s0:Array Nat,seen=s0.push x.born
def jmp : Nat→Option Code
 | 0=>none
 | 1=>none
 | 2=>some .ret
 | k+3=>some (.exit k)
def lst : Nat→LoopState
 | 0=>.ready
 | 1=>.busy
 | _=>.done
def QuQ (φ:Nat→Option Blk)(I:Nat→Prop)(w:World)(B:Blk)(l:Nat)(K:Qga)(vs:List V)(q:Nat):Prop:=
 ∃tmps D,B.b=l∧B.more=[]∧w.heap[l]? = some (.loop { state:=lst q,pending:=jmp q,fn:=K.fn,tmps,params:=K.ps,assign:=K.assign,body:=K.body,defers:=D })∧tmps.size=vs.length∧
  ∀(j:Nat) x v,tmps[j]? = some x→vs[j]? = some v→Rep φ I w x v
def Qbi (φ:Nat→Option Blk)(I:Nat→Prop)(w:World)(B:Blk):Ob→Prop
 | .var vs=>Qvg φ I w B vs
 | .lp l K vs q=>QuQ φ I w B l K vs q
 | .arr z rs=>QaC I w B z rs
 | .map l=>Qdy I w B l
 | .grp z l out=>Qdz I w B z l out
 | .mapX bm clock L l=>Qfl I w B bm clock L l
 | .itr bm since seen cur=>Qlv w B bm since seen cur
 | .itr0=>∃s c,w.heap[B.b]? = some (.mapIter none 0 s c)∧B.off=0
theorem QaC.monoC {I I':Nat→Prop}{w w':World}(h:∀k,I k→I' k∧∀i,w'.cell? ⟨k,i,none⟩=w.cell? ⟨k,i,none⟩){B:Blk}(hB:w'.heap[B.b]? = w.heap[B.b]?){z:Nat}{rs:List (List V)}(d:QaC I w B z rs):
  QaC I' w' B z rs:=by
 obtain⟨h1,h2,h3,cs,E,h4,h5,h6⟩:=d
 exact⟨h1,h2,h3,cs,E,hB.trans h4,h5,fun i r hi j v hj=>let ⟨x,hx,hr⟩:=h6 i r hi j v hj;⟨x,hx,hr.monoC h⟩⟩
theorem QaC.mono {I I':Nat→Prop}{w w':World}(h:∀k,I k→I' k∧w'.heap[k]? = w.heap[k]?){B:Blk}(hB:w'.heap[B.b]? = w.heap[B.b]?){z:Nat}{rs:List (List V)}(d:QaC I w B z rs):
  QaC I' w' B z rs:=
 QaC.monoC (fun k hk=>⟨(h k hk).1,fun i=>World.cell?_of_block (h k hk).2⟩) hB d
theorem Qdy.monoC {I I':Nat→Prop}{w w':World}(h:∀k,I k→I' k∧∀i,w'.cell? ⟨k,i,none⟩=w.cell? ⟨k,i,none⟩){B:Blk}(hB:w'.heap[B.b]? = w.heap[B.b]?){l:List (V×V)}(d:Qdy I w B l):Qdy I' w' B l:=by
 obtain⟨es,clock,h1,h2,h3,h4,h5,h6⟩:=d
 exact⟨es,clock,hB.trans h1,h2,h3,h4,fun x hx=>let ⟨p,hp,a,b⟩:=h5 x hx;⟨p,hp,a.monoC h,b.monoC h⟩,fun p hp=>let ⟨x,hx,a,b⟩:=h6 p hp;⟨x,hx,a.monoC h,b.monoC h⟩⟩
theorem Qdy.mono {I I':Nat→Prop}{w w':World}(h:∀k,I k→I' k∧w'.heap[k]? = w.heap[k]?){B:Blk}(hB:w'.heap[B.b]? = w.heap[B.b]?){l:List (V×V)}(d:Qdy I w B l):Qdy I' w' B l:=
 Qdy.monoC (fun k hk=>⟨(h k hk).1,fun i=>World.cell?_of_block (h k hk).2⟩) hB d
theorem Quf {bs:List (Option Blk)}{i:Nat}{F:Blk}(h:bs[i]? = some (some F)):F.b∈bs.filterMap (Option.map Blk.b):=List.mem_filterMap.2 ⟨some F,List.mem_of_getElem? h,rfl⟩
theorem Qdz.monoC {I I':Nat→Prop}{w w':World}(h:∀k,I k→I' k∧∀i,w'.cell? ⟨k,i,none⟩=w.cell? ⟨k,i,none⟩){B:Blk}(hB:∀k,B.has k→w'.heap[k]? = w.heap[k]?){z:Nat}{l:List (V×List (List V))}{out:Option V}(d:Qdz I w B z l out):Qdz I' w' B z l out:=by
 obtain⟨es,clock,h1,h2,h3,h4,bs,h5,h6,h7,h8,h9⟩:=d
 refine⟨es,clock,(hB _ B.self).trans h1,h2,h3,h4,bs,h5,h6,h7,fun i x E hx hE=>?_,fun p hp=>let ⟨i,x,a,b⟩:=h9 p hp;⟨i,x,a,b.monoC h⟩⟩
 obtain⟨p,hp,a1,a2⟩:=h8 i x E hx hE
 refine⟨p,hp,a1.monoC h,a2.imp (fun ⟨F,c0,c1,c2,c3,c4⟩=>⟨F,c0,c1,c2,c3.monoC h (hB _ (.inr ?_)),c4⟩) id⟩
 subst c0
 rw [h6];exact Quf hE
theorem Qdz.mono {I I':Nat→Prop}{w w':World}(h:∀k,I k→I' k∧w'.heap[k]? = w.heap[k]?){B:Blk}(hB:∀k,B.has k→w'.heap[k]? = w.heap[k]?){z:Nat}{l:List (V×List (List V))}{out:Option V}(d:Qdz I w B z l out):Qdz I' w' B z l out:=
 Qdz.monoC (fun k hk=>⟨(h k hk).1,fun i=>World.cell?_of_block (h k hk).2⟩) hB d
theorem Qfl.monoC {I I':Nat→Prop}{w w':World}(h:∀k,I k→I' k∧∀i,w'.cell? ⟨k,i,none⟩=w.cell? ⟨k,i,none⟩){B:Blk}(hB:w'.heap[B.b]? = w.heap[B.b]?){bm clock:Nat}{L:List (MapEntry×(V×V))}{l:List (V×V)}(d:Qfl I w B bm clock L l):Qfl I' w' B bm clock L l:=by
 obtain⟨h1,h2,h3,h4,h5,h6⟩:=d
 exact⟨h1,hB.trans h2,h3,h4,h5,fun q hq=>⟨(h6 q hq).1.monoC h,(h6 q hq).2.monoC h⟩⟩
theorem Qfl.mono {I I':Nat→Prop}{w w':World}(h:∀k,I k→I' k∧w'.heap[k]? = w.heap[k]?){B:Blk}(hB:w'.heap[B.b]? = w.heap[B.b]?){bm clock:Nat}{L:List (MapEntry×(V×V))}{l:List (V×V)}(d:Qfl I w B bm clock L l):Qfl I' w' B bm clock L l:=
 Qfl.monoC (fun k hk=>⟨(h k hk).1,fun i=>World.cell?_of_block (h k hk).2⟩) hB d
theorem Qlv.mono {w w':World}{B:Blk}(hB:w'.heap[B.b]? = w.heap[B.b]?){bm since:Nat}{seen:Array Nat}{cur:Option MapEntry}(d:Qlv w B bm since seen cur):Qlv w' B bm since seen cur:=
 ⟨hB.trans d.1,d.2⟩
theorem Qbi.monoC {φ φ':Nat→Option Blk}{I I':Nat→Prop}{w w':World}(hφ:∀o B,φ o=some B→φ' o=some B)(h:∀k,I k→I' k∧∀i,w'.cell? ⟨k,i,none⟩=w.cell? ⟨k,i,none⟩)
  {B:Blk} (hB:∀k,B.has k→w'.heap[k]? = w.heap[k]?) {ob:Ob} (d:Qbi φ I w B ob):Qbi φ' I' w' B ob:=by
 cases ob with
 | var vs=>
  obtain⟨cs,E,h1,h2,h0,h3⟩:=d
  exact⟨cs,E,(hB _ B.self).trans h1,h2,h0,fun j x v hx hv=>(h3 j x v hx hv).monoC hφ h⟩
 | lp l K vs q=>
  obtain⟨tmps,D,rfl,h1,h2,h3,h4⟩:=d
  exact⟨tmps,D,rfl,h1,(hB _ B.self).trans h2,h3,fun j x v hx hv=>(h4 j x v hx hv).monoC hφ h⟩
 | arr z rs=>exact QaC.monoC h (hB _ B.self) d
 | map l=>exact Qdy.monoC h (hB _ B.self) d
 | grp z l lk=>exact Qdz.monoC h hB d
 | mapX bm clock L l=>exact Qfl.monoC h (hB _ B.self) d
 | itr bm since seen cur=>exact Qlv.mono (hB _ B.self) d
 | itr0=>obtain⟨s,c,h1⟩:=d;exact⟨s,c,(hB _ B.self).trans h1.1,h1.2⟩
theorem Qbi.mono {φ φ':Nat→Option Blk}{I I':Nat→Prop}{w w':World}(hφ:∀o B,φ o=some B→φ' o=some B)(h:∀k,I k→I' k∧w'.heap[k]? = w.heap[k]?)
  {B:Blk} (hB:∀k,B.has k→w'.heap[k]? = w.heap[k]?) {ob:Ob} (d:Qbi φ I w B ob):Qbi φ' I' w' B ob:=
 Qbi.monoC hφ (fun k hk=>⟨(h k hk).1,fun i=>World.cell?_of_block (h k hk).2⟩) hB d
def look {α:Type}:List (Nat×α)→Nat→Option α
 | [],_=>none
 | (k,v)::r,t=>bif Nat.beq k t then some v else look r t
theorem Qq {α:Type}(k:Nat)(v:α)(r:List (Nat×α)):look ((k,v)::r) k=some v:=by simp [look]
theorem Qn {α:Type}{k t:Nat}(v:α)(r:List (Nat×α))(h:k≠t):look ((k,v)::r) t=look r t:=by
 have:Nat.beq k t=false:=by
  cases hb:Nat.beq k t with
  | false=>rfl
  | true=>exact absurd (Nat.eq_of_beq_eq_true hb) h
 simp [look,this]
structure St where
 fr:List (Nat×V)
 hp:List (Nat×Ob)
def St.put (σ:St)(t:Nat)(v:V):St:={ fr:=(t,v)::σ.fr,hp:=σ.hp }
def St.set (σ:St)(o:Nat)(ob:Ob):St:={ fr:=σ.fr,hp:=(o,ob)::σ.hp }
def Qfm : Value→V
 | .bool x=>.b x
 | .int k n=>.i k n
 | .string x=>.s x
 | x=>.lit x
def St.opd (σ:St):Operand→Option V
 | .tmp t=>look σ.fr t
 | .const v=>some (Qfm v)
 | .func f=>some (.clo (.func f) [] [])
 | .global g=>some (.lit (.pointer (some ⟨g,0,none⟩)))
structure Ctx where
 w0:World
 S:Nat→Prop
 W:Nat→Prop
 n:Nat
 φ0:Nat→Option Blk
 small:n≤200000
 rnd:Option Nat:=none
def Ctx.F (C:Ctx):Fence:={ fn:=fun _=>True,depth:=none,alive:=false,round:=C.rnd }
def QrP (b:Nat)(I:Nat→Prop)(w:World)(ds:List Deferred):Prop:=∃Ds:List Nat,ds=Ds.map (fun D=>{ target:=.collected D,args:=#[] })∧Ds.Nodup∧∀D∈Ds,b≤D∧I D∧w.heap[D]? = some (.deferred (some []))
theorem QrP.mono {b:Nat}{I I':Nat→Prop}{w w':World}(h:∀k,I k→I' k∧w'.heap[k]? = w.heap[k]?){ds:List Deferred}(m:QrP b I w ds):QrP b I' w' ds:=by
 obtain⟨Ds,h1,h2,h3⟩:=m
 exact⟨Ds,h1,h2,fun D hD=>let ⟨a1,a2,a3⟩:=h3 D hD;⟨a1,(h D a2).1,(h D a2).2.trans a3⟩⟩
def Imm (C:Ctx)(φ:Nat→Option Blk)(w:World)(k:Nat):Prop:=
 k<w.heap.size∧(k<C.w0.heap.size→C.S k)∧∀o B,φ o=some B→¬B.has k
def Qmg (φ0 φ:Nat→Option Blk)(hp:List (Nat×Ob)):Prop:=(∀o B,200000≤o→φ o=some B→φ0 o=some B)∧∀o ob B,200000≤o→look hp o=some ob→φ0 o=some B→φ o=some B
theorem Qmg.sub {φ0 φ:Nat→Option Blk}{hp hp':List (Nat×Ob)}(h:Qmg φ0 φ hp)(hs:∀o ob,look hp' o=some ob→∃ob',look hp o=some ob'):Qmg φ0 φ hp':=
 ⟨h.1,fun o ob B h1 h2 h3=>let ⟨ob',h4⟩:=hs o ob h2;h.2 o ob' B h1 h4 h3⟩
structure RR (C:Ctx) (φ:Nat→Option Blk) (σ:St) (a:Act) (w:World):Prop where
 os:w.os=C.w0.os
 tape:w.tape=C.w0.tape
 output:w.output=C.w0.output
 size:C.w0.heap.size≤w.heap.size
 kept:∀k,k<C.w0.heap.size→¬C.W k→w.heap[k]? = C.w0.heap[k]?
 inj:∀o o' B B' k,φ o=some B→φ o'=some B'→B.has k→B'.has k→o=o'
 dom:∀o B,φ o=some B→∃ob,look σ.hp o=some ob
 lt:∀o B k,φ o=some B→B.has k→k<w.heap.size∧(k<C.w0.heap.size→C.W k)
 new:∀o B k,φ o=some B→B.has k→o<100000→C.w0.heap.size≤k
 stay:Qmg C.φ0 φ σ.hp
 tmps:a.tmps.size=C.n
 defers:QrP C.w0.heap.size (Imm C φ w) w a.defers
 frame:∀t v,look σ.fr t=some v→∃x,a.tmps[t]? = some x∧Rep φ (Imm C φ w) w x v
 heap:∀o ob,look σ.hp o=some ob→(∃B,φ o=some B∧Qbi φ (Imm C φ w) w B ob)∨(φ o=none∧∃z,ob=.arr z [])
def R (C:Ctx)(σ:St)(a:Act)(w:World):Prop:=∃φ,RR C φ σ a w
section
variable {C:Ctx}{φ:Nat→Option Blk}{σ:St}{a:Act}{w:World}
theorem RR.opd (h:RR C φ σ a w){x:Operand}{v:V}(hv:σ.opd x=some v):Rep φ (Imm C φ w) w (a.eval x) v:=by
 cases x with
 | tmp t=>
  obtain⟨x,hx,hr⟩:=h.frame t v hv
  simpa [Act.eval,Array.getD_eq_getD_getElem?,hx] using hr
 | const c=>
  simp only [St.opd,Option.some.injEq]at hv;subst hv
  cases c<;>first | exact .dat (.b _) | exact .dat (.i _ _) | exact .dat (.s _) | exact .dat (.lit _)
 | global g=>simp only [St.opd,Option.some.injEq]at hv;subst hv;exact .dat (.lit _)
 | func f=>simp only [St.opd,Option.some.injEq]at hv;subst hv;exact .clo (.func f) #[] #[] [] [] rfl rfl (fun j x v h=>by simp at h) (fun j x v h=>by simp at h)
theorem RR.put (h:RR C φ σ a w){t:Nat}{x:Value}{v:V}(ht:t<C.n)(hx:Rep φ (Imm C φ w) w x v):RR C φ (σ.put t v) (a.put (some t) x) w:=by
 refine⟨h.os,h.tape,h.output,h.size,h.kept,h.inj,h.dom,h.lt,h.new,h.stay,by simpa [Act.put] using h.tmps,h.defers,?_,h.heap⟩
 intro t' v' hv'
 by_cases ht':t=t'
 ·subst ht'
  rw [St.put,Qq]at hv';cases hv'
  exact⟨x,by simp [Act.put,Array.getElem?_setIfInBounds,h.tmps,ht],hx⟩
 ·rw [St.put,Qn _ _ ht']at hv'
  obtain⟨y,hy,hr⟩:=h.frame t' v' hv'
  exact⟨y,by simpa [Act.put,Array.getElem?_setIfInBounds,ht'] using hy,hr⟩
theorem RR.le (h:RR C φ σ a w){fr:List (Nat×V)}(hf:∀t v,look fr t=some v→look σ.fr t=some v):RR C φ ⟨fr,σ.hp⟩ a w:=
 ⟨h.os,h.tape,h.output,h.size,h.kept,h.inj,h.dom,h.lt,h.new,h.stay,h.tmps,h.defers,fun t v hv=>h.frame t v (hf t v hv),h.heap⟩
theorem RR.step (h:RR C φ σ a w){w':World}(ho:w'.os=w.os)(ht:w'.tape=w.tape)(hu:w'.output=w.output)(hs:w.heap.size≤w'.heap.size)
  (hk:∀k,k<w.heap.size→w'.heap[k]? = w.heap[k]?):RR C φ σ a w':=by
 have hI:∀k,Imm C φ w k→Imm C φ w' k∧w'.heap[k]? = w.heap[k]? := fun k hk'=>⟨⟨Nat.lt_of_lt_of_le hk'.1 hs,hk'.2⟩,hk k hk'.1⟩
 refine⟨ho.trans h.os,ht.trans h.tape,hu.trans h.output,Nat.le_trans h.size hs,fun k h1 h2=>(hk k (Nat.lt_of_lt_of_le h1 h.size)).trans (h.kept k h1 h2),h.inj,h.dom,
  fun o B k hB hk=>⟨Nat.lt_of_lt_of_le (h.lt o B k hB hk).1 hs,(h.lt o B k hB hk).2⟩,h.new,h.stay,h.tmps,h.defers.mono hI,?_,?_⟩
 ·intro t v hv
  obtain⟨x,hx,hr⟩:=h.frame t v hv
  exact⟨x,hx,hr.mono (fun _ _ h=>h) hI⟩
 ·intro o ob hob
  rcases h.heap o ob hob with⟨B,hB,hr⟩|hn
  ·exact .inl ⟨B,hB,hr.mono (fun _ _ h=>h) hI fun k hk'=>hk _ (h.lt o B k hB hk').1⟩
  ·exact .inr hn
end
end Go.Vm
