/- A part of the proof; what it holds is told at each theorem. -/
import Derived.WalkKit
import Derived.ProofKit
import Derived.MapKept
import Derived.Maps.RangeRun
import Derived.RangeFuncRecord
import Derived.RangeFuncLeaves
import Derived.LoopNIn
import Derived.OrdersIn
import Derived.TacticsIn
import Derived.Lib.Space
import Derived.Orders
set_option linter.unusedVariables false
set_option linter.unusedSimpArgs false
set_option linter.unusedSectionVars false
set_option linter.deprecated false
namespace Go.Vm
open Go Go.RowKit
abbrev Qxp:=@Array.eq_empty_of_size_eq_zero
abbrev Qo0:=@Array.getD_eq_getD_getElem?
abbrev QeA:=@Array.getElem?_eq_getElem
abbrev Qhr:=@Array.getElem?_eq_some_iff
abbrev Qq4:=@Array.getElem?_setIfInBounds
abbrev QyL:=@Array.getElem?_setIfInBounds_ne
abbrev Qq5:=@Array.getElem?_toList
abbrev Qxq:=@Array.length_toList
abbrev QvA:=@Array.mem_toList_iff
abbrev Qxr:=@Array.range_zero'
abbrev Qql:=@Array.toArray_toList
abbrev QB:=@Bool.and_eq_true
abbrev Qr6:=@Bool.eq_iff_iff
abbrev Qnf:=@Bool.false_and
abbrev Qqm:=@Bool.not_eq_false
abbrev QiX:=@Bool.not_eq_false'
abbrev QiY:=@Bool.not_eq_true
abbrev Qe4:=@Bool.not_eq_true'
abbrev Qft:=@Bool.not_true
abbrev QcV:=@Bool.or_eq_false_iff
abbrev Qcs:=@Bool.or_eq_true
abbrev QoH:=@Bool.true_and
abbrev Qg7:=@Int.toNat_natCast
abbrev Qng:=@List.all_cons
abbrev Qad:=@List.all_eq_true
abbrev Qma:=@List.any_eq_true
abbrev Qgb:=@List.append_assoc
abbrev Qr7:=@List.cons_append
abbrev Qnh:=@List.drop_eq_getElem_cons
abbrev Qni:=@List.eq_of_mem_replicate
abbrev Qlk:=@List.filter_cons
abbrev QhV:=@List.flatMap_cons
abbrev QdT:=@List.forall_mem_cons
abbrev Qbf:=@List.getElem?_append_left
abbrev Qcf:=@List.getElem?_append_right
abbrev Qr8:=@List.getElem?_cons_succ
abbrev QgA:=@List.getElem?_drop
abbrev QG:=@List.getElem?_eq_getElem
abbrev QT:=@List.getElem?_eq_some_iff
abbrev Qak:=@List.getElem?_map
abbrev Qbx:=@List.getElem?_take
abbrev QiZ:=@List.getElem?_toArray
abbrev Qby:=@List.getElem_mem
abbrev QuI:=@List.getElem_range
abbrev Qb0:=@List.length_append
abbrev QeP:=@List.length_cons
abbrev Qll:=@List.length_drop
abbrev Qmb:=@List.length_eq_zero_iff
abbrev Qwu:=@List.length_filter_le
abbrev Qlm:=@List.length_map
abbrev Qln:=@List.length_nil
abbrev QuJ:=@List.length_range
abbrev Qi0:=@List.length_singleton
abbrev QdI:=@List.length_take
abbrev Qgc:=@List.map_cons
abbrev Qmc:=@List.map_map
abbrev QcH:=@List.mem_append
abbrev QaK:=@List.mem_cons
abbrev Qb1:=@List.mem_cons_of_mem
abbrev Qbz:=@List.mem_cons_self
abbrev Qnj:=@List.mem_filter
abbrev Qr9:=@List.mem_iff_getElem
abbrev Qlo:=@List.mem_iff_getElem?
abbrev QaE:=@List.mem_map
abbrev Qaa:=@List.mem_of_getElem?
abbrev QoI:=@List.mem_of_mem_drop
abbrev QeQ:=@List.mem_of_mem_take
abbrev Qi1:=@List.mem_range
abbrev Qnk:=@List.mem_singleton
abbrev Qlp:=@List.nodup_cons
abbrev Qqn:=@List.pairwise_map
abbrev QhW:=@List.take_add_one
abbrev Qsa:=@List.take_append_of_le_length
abbrev Qi2:=@List.take_length
abbrev QgB:=@List.take_of_length_le
abbrev Qsb:=@List.take_zero
abbrev Qmd:=@Nat.add_assoc
abbrev QcI:=@Nat.add_mul
abbrev Qlq:=@Nat.add_zero
abbrev Qqo:=@Nat.ble_eq_true_of_le
abbrev QaL:=@Nat.eq_of_beq_eq_true
abbrev QbV:=@Nat.le_of_ble_eq_true
abbrev Qb2:=@Nat.le_refl
abbrev QbM:=@Nat.le_trans
abbrev Qg8:=@Nat.lt_of_lt_of_le
abbrev QeR:=@Nat.lt_or_ge
abbrev Qct:=@Nat.mul_le_mul_right
abbrev Qlr:=@Nat.zero_add
abbrev Qnl:=@Nat.zero_le
abbrev Qme:=@Nat.zero_mul
abbrev QoJ:=@Option.bind_eq_some_iff
abbrev Ql:=@Option.bind_some
abbrev Qas:=@Option.map_eq_some_iff
abbrev Qsc:=@Option.map_none
abbrev Qfu:=@Option.map_some
abbrev QP:=@decide_eq_false
abbrev Qal:=@decide_eq_false_iff_not
abbrev QI:=@decide_eq_true
abbrev QQ:=@decide_eq_true_eq
abbrev Qap:=@of_decide_eq_true
inductive V where
 | b (x:Bool)
 | i (k:IntKind) (n:Int)
 | s (x:ByteArray)
 | sl (z:Nat) (rows:List (List V))
 | sln (β z:Nat) (rows:List (List V))
 | ro (cs:List V)
 | e0
 | own (o n:Nat)
 | loc (o i d:Nat)
 | map (o:Nat)
 | agg (cs:List V)
 | tup (cs:List V)
 | clo (fn:Fn) (first caps:List V)
 | ifc (t:TypeId) (x:V)
 | lit (x:Value)
 | J
def V.one : V->Bool
 | .agg _=>false
 | .tup _=>false
 | .J=>false
 | .lit (.agg _)=>false
 | .lit (.tuple _)=>false
 | _=>true
def Qfv (z:Nat)(r:List V):Prop:=r.length=z/\∀v∈r,v.one=true
inductive Dat (I:Nat->Prop) (w:World):Value->V->Prop where
 | b (x:Bool):Dat I w (.bool x) (.b x)
 | i (k:IntKind) (n:Int):Dat I w (.int k n) (.i k n)
 | s (x:ByteArray):Dat I w (.string x) (.s x)
 | lit (x:Value):Dat I w x (.lit x)
 | J (x:Value):Dat I w x .J
 | sl0 (a:Option Addr) (cap z:Nat):Dat I w (.slice a 0 cap) (.sl z [])
 | sl (b off len cap z:Nat) (rows:List (List V)) (c:Nat->Value):I b->len=rows.length->len<=cap->(∀r∈rows,Qfv z r)->
   (∀j,j<len*z->w.cell? ⟨b,off+j,none⟩=some (c j))->
   (∀(i:Nat) r,rows[i]? = some r->∀(j:Nat) v,r[j]? = some v->Dat I w (c (i*z+j)) v)->Dat I w (.slice (some ⟨b,off,none⟩) len cap) (.sl z rows)
 | e0 (a:Option Addr):Dat I w (.slice a 0 0) .e0
 | sln0 (β:Nat) (a:Option Addr) (cap z:Nat):Dat I w (.slice a 0 cap) (.sln β z [])
 | sln (β b off len cap z:Nat) (rows:List (List V)) (cs:Array Value) (E:TypeId):β<=b->I b->len=rows.length->len<=cap->(∀r∈rows,Qfv z r)->
   w.heap[b]? = some (.cells cs E (0,0))->off+len*z<=cs.size->
   (∀(i:Nat) r,rows[i]? = some r->∀(j:Nat) v,r[j]? = some v->Dat I w (cs.getD (off+(i*z+j)) undef) v)->Dat I w (.slice (some ⟨b,off,none⟩) len cap) (.sln β z rows)
 | ro (b off:Nat) (cs:List V) (c:Nat->Value):I b->(∀v∈cs,v.one=true)->(∀j,j<cs.length->w.cell? ⟨b,off+j,none⟩=some (c j))->
   (∀(j:Nat) v,cs[j]? = some v->Dat I w (c j) v)->Dat I w (.pointer (some ⟨b,off,none⟩)) (.ro cs)
 | agg (xs:Array Value) (cs:List V):xs.size=cs.length->(∀(j:Nat) x v,xs[j]? = some x->cs[j]? = some v->Dat I w x v)->Dat I w (.agg xs) (.agg cs)
 | tup (xs:Array Value) (cs:List V):xs.size=cs.length->(∀(j:Nat) x v,xs[j]? = some x->cs[j]? = some v->Dat I w x v)->Dat I w (.tuple xs) (.tup cs)
 | ifc (t:TypeId) (x:Value) (v:V):Dat I w x v->Dat I w (.iface t x) (.ifc t v)
def Kp (w w':World)(k:Nat):Prop:=(∀i,w'.cell? ⟨k,i,none⟩=w.cell? ⟨k,i,none⟩)/\∀cs E,w.heap[k]? = some (.cells cs E (0,0))->w'.heap[k]? = some (.cells cs E (0,0))
theorem Kp.of {w w':World}{k:Nat}(h:w'.heap[k]? = w.heap[k]?):Kp w w' k:=⟨fun _=>World.cell?_of_block h,fun _ _ e=>h.trans e⟩
theorem Dat.monoC {I I':Nat->Prop}{w w':World}(h:∀k,I k->I' k/\Kp w w' k){x:Value}{v:V}(d:Dat I w x v):Dat I' w' x v:=by
 induction d with
 | b x=>exact .b x
 | i k n=>exact .i k n
 | s x=>exact .s x
 | lit x=>exact .lit x
 | J x=>exact .J x
 | sl0 a cap z=>exact .sl0 a cap z
 | sl b off len cap z rows c hI hl hc hr hcell _ ih=>
  exact .sl b off len cap z rows c (h b hI).1 hl hc hr (fun j hj=>((h b hI).2.1 _).trans (hcell j hj)) ih
 | e0 a=>exact .e0 a
 | sln0 β a cap z=>exact .sln0 β a cap z
 | sln β b off len cap z rows cs E hβ hI hl hc hr hcell hsz _ ih=>
  exact .sln β b off len cap z rows cs E hβ (h b hI).1 hl hc hr ((h b hI).2.2 _ _ hcell) hsz ih
 | ro b off cs c hI ho hcell _ ih=>
  exact .ro b off cs c (h b hI).1 ho (fun j hj=>((h b hI).2.1 _).trans (hcell j hj)) ih
 | agg xs cs hs _ ih=>exact .agg xs cs hs ih
 | tup xs cs hs _ ih=>exact .tup xs cs hs ih
 | ifc t x v _ ih=>exact .ifc t x v ih
theorem Dat.lo1 {I:Nat->Prop}{w:World}{x:Value}{β z:Nat}{rows:List (List V)}(d:Dat I w x (.sln β z rows)):Dat I w x (.sl z rows):=by
 cases d with
 | sln0=>exact .sl0 _ _ _
 | sln _ b off len cap _ _ cs E _ hI hl hc hr hcell hsz hd=>
  refine .sl b off len cap z rows (fun j=>cs.getD (off+j) undef) hI hl hc hr (fun j hj=>?_) hd
  have:off+j<cs.size:=by omega
  simp [World.cell?,hcell,Array.getD,this]
theorem Dat.mono {I I':Nat->Prop}{w w':World}(h:∀k,I k->I' k/\w'.heap[k]? = w.heap[k]?){x:Value}{v:V}(d:Dat I w x v):Dat I' w' x v:=
 d.monoC (fun k hk=>⟨(h k hk).1,Kp.of (h k hk).2⟩)
structure Blk where
 b:Nat
 cap:Nat
 z:Nat
 more:List Nat:=[]
 off:Nat:=0
def Blk.has (B:Blk)(k:Nat):Prop:=k=B.b\/k∈B.more
theorem Blk.self (B:Blk):B.has B.b:=.inl rfl
inductive Rep (φ:Nat->Option Blk) (I:Nat->Prop) (w:World):Value->V->Prop where
 | dat {x:Value} {v:V}:Dat I w x v->Rep φ I w x v
 | own0 (o:Nat):Rep φ I w (.slice none 0 0) (.own o 0)
 | own (o n:Nat) (B:Blk):φ o=some B->n<=B.cap->Rep φ I w (.slice (some ⟨B.b,B.off,none⟩) n B.cap) (.own o n)
 | loc (o i d:Nat) (B:Blk):φ o=some B->Rep φ I w (.pointer (some ⟨B.b,B.off+(i*B.z+d),none⟩)) (.loc o i d)
 | map (o:Nat) (B:Blk):φ o=some B->Rep φ I w (.map (some B.b)) (.map o)
 | agg (xs:Array Value) (cs:List V):xs.size=cs.length->(∀(j:Nat) x v,xs[j]? = some x->cs[j]? = some v->Rep φ I w x v)->Rep φ I w (.agg xs) (.agg cs)
 | tup (xs:Array Value) (cs:List V):xs.size=cs.length->(∀(j:Nat) x v,xs[j]? = some x->cs[j]? = some v->Rep φ I w x v)->Rep φ I w (.tuple xs) (.tup cs)
 | ifc (t:TypeId) (x:Value) (v:V):Rep φ I w x v->Rep φ I w (.iface t x) (.ifc t v)
 | clo (fn:Fn) (xs ys:Array Value) (vs us:List V):xs.size=vs.length->ys.size=us.length->(∀(j:Nat) x v,xs[j]? = some x->vs[j]? = some v->Rep φ I w x v)->
   (∀(j:Nat) x v,ys[j]? = some x->us[j]? = some v->Rep φ I w x v)->Rep φ I w (.func fn xs ys) (.clo fn vs us)
theorem Rep.monoC {φ φ':Nat->Option Blk}{I I':Nat->Prop}{w w':World}(hφ:∀o B,φ o=some B->φ' o=some B)(h:∀k,I k->I' k/\Kp w w' k){x:Value}{v:V}
  (d:Rep φ I w x v):Rep φ' I' w' x v:=by
 induction d with
 | dat d=>exact .dat (d.monoC h)
 | own0 o=>exact .own0 o
 | own o n B hB hn=>exact .own o n B (hφ o B hB) hn
 | loc o i d B hB=>exact .loc o i d B (hφ o B hB)
 | map o B hB=>exact .map o B (hφ o B hB)
 | agg xs cs hs _ ih=>exact .agg xs cs hs ih
 | tup xs cs hs _ ih=>exact .tup xs cs hs ih
 | ifc t x v _ ih=>exact .ifc t x v ih
 | clo fn xs ys vs us h1 h2 _ _ ih1 ih2=>exact .clo fn xs ys vs us h1 h2 ih1 ih2
theorem Rep.mono {φ φ':Nat->Option Blk}{I I':Nat->Prop}{w w':World}(hφ:∀o B,φ o=some B->φ' o=some B)(h:∀k,I k->I' k/\w'.heap[k]? = w.heap[k]?){x:Value}{v:V}
  (d:Rep φ I w x v):Rep φ' I' w' x v:=
 d.monoC hφ (fun k hk=>⟨(h k hk).1,Kp.of (h k hk).2⟩)
section inv
variable {φ:Nat->Option Blk}{I:Nat->Prop}{w:World}{x:Value}
theorem Rep.b_inv {y:Bool}(h:Rep φ I w x (.b y)):x=.bool y:=by
 cases h with
 | dat h=>cases h;rfl
theorem Rep.i_inv {k:IntKind}{n:Int}(h:Rep φ I w x (.i k n)):x=.int k n:=by
 cases h with
 | dat h=>cases h;rfl
theorem Rep.s_inv {y:ByteArray}(h:Rep φ I w x (.s y)):x=.string y:=by
 cases h with
 | dat h=>cases h;rfl
theorem Rep.lit_inv {y:Value}(h:Rep φ I w x (.lit y)):x=y:=by
 cases h with
 | dat h=>cases h;rfl
theorem Rep.agg_inv {cs:List V}(h:Rep φ I w x (.agg cs)):∃xs:Array Value,x=.agg xs/\xs.size=cs.length/\∀(j:Nat) x v,xs[j]? = some x->cs[j]? = some v->Rep φ I w x v:=by
 cases h with
 | dat h=>cases h with | agg xs _ hs hr=>exact⟨xs,rfl,hs,fun j x v h1 h2=>.dat (hr j x v h1 h2)⟩
 | agg xs _ hs hr=>exact⟨xs,rfl,hs,hr⟩
theorem Rep.tup_inv {cs:List V}(h:Rep φ I w x (.tup cs)):∃xs:Array Value,x=.tuple xs/\xs.size=cs.length/\∀(j:Nat) x v,xs[j]? = some x->cs[j]? = some v->Rep φ I w x v:=by
 cases h with
 | dat h=>cases h with | tup xs _ hs hr=>exact⟨xs,rfl,hs,fun j x v h1 h2=>.dat (hr j x v h1 h2)⟩
 | tup xs _ hs hr=>exact⟨xs,rfl,hs,hr⟩
theorem Rep.ro_inv {cs:List V}(h:Rep φ I w x (.ro cs)):∃b off,x=.pointer (some ⟨b,off,none⟩)/\I b/\(∀v∈cs,v.one=true)/\∃c:Nat->Value,(∀j,j<cs.length->w.cell? ⟨b,off+j,none⟩=some (c j))/\∀(j:Nat) v,cs[j]? = some v->Dat I w (c j) v:=by
 cases h with
 | dat h=>cases h with | ro b off _ c hI ho hc hr=>exact⟨b,off,rfl,hI,ho,c,hc,hr⟩
theorem Rep.loc_inv {o i d:Nat}(h:Rep φ I w x (.loc o i d)):∃B,φ o=some B/\x=.pointer (some ⟨B.b,B.off+(i*B.z+d),none⟩):=by
 cases h with
 | dat h=>cases h
 | loc _ _ _ B hB=>exact⟨B,hB,rfl⟩
theorem Rep.map_inv {o:Nat}(h:Rep φ I w x (.map o)):∃B,φ o=some B/\x=.map (some B.b):=by
 cases h with
 | dat h=>cases h
 | map _ B hB=>exact⟨B,hB,rfl⟩
theorem Rep.own_inv {o n:Nat}(h:Rep φ I w x (.own o n)):(x=.slice none 0 0/\n=0)\/∃B,φ o=some B/\n<=B.cap/\x=.slice (some ⟨B.b,B.off,none⟩) n B.cap:=by
 cases h with
 | dat h=>cases h
 | own0=>exact .inl ⟨rfl,rfl⟩
 | own _ _ B hB hn=>exact .inr ⟨B,hB,hn,rfl⟩
theorem Rep.sl_inv {z:Nat}{rows:List (List V)}(h:Rep φ I w x (.sl z rows)):
  (∃a cap,x=.slice a 0 cap/\rows=[])\/
  ∃b off cap,x=.slice (some ⟨b,off,none⟩) rows.length cap/\I b/\rows.length<=cap/\(∀r∈rows,Qfv z r)/\
   ∃c:Nat->Value,(∀j,j<rows.length*z->w.cell? ⟨b,off+j,none⟩=some (c j))/\∀(i:Nat) r,rows[i]? = some r->∀(j:Nat) v,r[j]? = some v->Dat I w (c (i*z+j)) v:=by
 cases h with
 | dat h=>cases h with
  | sl0 a cap z=>exact .inl ⟨a,cap,rfl,rfl⟩
  | sl b off len cap z rows c hI hl hc hr hcell hd=>subst hl;exact .inr ⟨b,off,cap,rfl,hI,hc,hr,c,hcell,hd⟩
theorem Rep.ifc_inv {t:TypeId}{v:V}(h:Rep φ I w x (.ifc t v)):∃y,x=.iface t y/\Rep φ I w y v:=by
 cases h with
 | dat h=>cases h with | ifc _ y _ h=>exact⟨y,rfl,.dat h⟩
 | ifc _ y _ h=>exact⟨y,rfl,h⟩
theorem Rep.clo_inv {fn:Fn}{vs us:List V}(h:Rep φ I w x (.clo fn vs us)):∃xs ys:Array Value,x=.func fn xs ys/\xs.size=vs.length/\ys.size=us.length/\
  (∀(j:Nat) x v,xs[j]? = some x->vs[j]? = some v->Rep φ I w x v)/\∀(j:Nat) x v,ys[j]? = some x->us[j]? = some v->Rep φ I w x v:=by
 cases h with
 | dat h=>cases h
 | clo _ xs ys _ _ h1 h2 h3 h4=>exact⟨xs,ys,rfl,h1,h2,h3,h4⟩
end inv
structure QeS where
 fn:FuncId
 ps:Array Tmp
 assign:Code
 body:Code
inductive Ob where
 | var (cs:List V)
 | lp (l:Nat) (K:QeS) (cs:List V) (q:Nat)
 | arr (z:Nat) (rs:List (List V))
 | map (es:List (V×V))
 | grp (z:Nat) (es:List (V×List (List V))) (out:Option V)
 | mapX (bm clock:Nat) (L:List (Nat×(V×V))) (l:List (V×V))
 | itr (bm since:Nat) (seen:Array Nat) (cur:Option Nat)
 | itr0
 | tbl (A:Nat->Nat) (z:Nat) (rs:List (List V))
 | nst (x:Value) (v:V)
 | scr (D:Nat->Nat->Prop) (H:Nat->Nat->Value->Prop)
def Ob.Nil : Ob->Prop
 | .arr _ rs=>rs=[]
 | .tbl _ _ rs=>rs=[]
 | .nst x v=>∀w,Dat (fun _=>False) w x v
 | .scr D H=>(∀b i,¬D b i)/\∀b i y,¬H b i y
 | _=>False
def QfS (I:Nat->Prop)(w:World)(B:Blk)(A:Nat->Nat)(z:Nat)(rs:List (List V)):Prop:=
 B.b::B.more=(List.range rs.length).map A/\(B.b::B.more).Nodup/\(∀r∈rs,Qfv z r)/\
  ∀(i:Nat) r,rs[i]? = some r->∃cs E,w.heap[A i]? = some (.cells cs E (0,0))/\cs.size=z/\∀(j:Nat) v,r[j]? = some v->∃x,cs[j]? = some x/\Dat I w x v
theorem QfS.has {I:Nat->Prop}{w:World}{B:Blk}{A:Nat->Nat}{z:Nat}{rs:List (List V)}(d:QfS I w B A z rs)(k:Nat):B.has k↔∃i,i<rs.length/\A i=k:=by
 have:B.has k↔k∈B.b::B.more:=by unfold Blk.has;exact QaK.symm
 rw [this,d.1];simp
theorem QfS.monoC {I I':Nat->Prop}{w w':World}(h:∀k,I k->I' k/\Kp w w' k){B:Blk}(hB:∀k,B.has k->w'.heap[k]? = w.heap[k]?){A:Nat->Nat}{z:Nat}{rs:List (List V)}(d:QfS I w B A z rs):QfS I' w' B A z rs:=by
 refine⟨d.1,d.2.1,d.2.2.1,fun i r hi=>?_⟩
 obtain⟨cs,E,h1,h2,h3⟩:=d.2.2.2 i r hi
 exact⟨cs,E,(hB _ ((d.has _).2 ⟨i,(QT.1 hi).1,rfl⟩)).trans h1,h2,fun j v hj=>let ⟨x,hx,hd⟩:=h3 j v hj;⟨x,hx,hd.monoC h⟩⟩
theorem QfS.mono {I I':Nat->Prop}{w w':World}(h:∀k,I k->I' k/\w'.heap[k]? = w.heap[k]?){B:Blk}(hB:∀k,B.has k->w'.heap[k]? = w.heap[k]?){A:Nat->Nat}{z:Nat}{rs:List (List V)}(d:QfS I w B A z rs):QfS I' w' B A z rs:=
 QfS.monoC (fun k hk=>⟨(h k hk).1,Kp.of (h k hk).2⟩) hB d
def QDh (φ:Nat->Option Blk)(I:Nat->Prop)(w:World)(B:Blk)(vs:List V):Prop:=
 ∃cs E,w.heap[B.b]? = some (.cells cs E (0,0))/\cs.size=vs.length/\B.off=0/\∀(j:Nat) x v,cs[j]? = some x->vs[j]? = some v->Rep φ I w x v
def Qba (I:Nat->Prop)(w:World)(B:Blk)(z:Nat)(rs:List (List V)):Prop:=
 B.z=z/\rs.length<=B.cap/\(∀r∈rs,Qfv z r)/\∃cs E,w.heap[B.b]? = some (.cells cs E (0,0))/\B.off+B.cap*z<=cs.size/\
  ∀(i:Nat) r,rs[i]? = some r->∀(j:Nat) v,r[j]? = some v->∃x,cs[B.off+(i*z+j)]? = some x/\Dat I w x v
theorem Qba.mk0 {I:Nat->Prop}{w:World}{B:Blk}{z:Nat}{rs:List (List V)}(hz:B.z=z)(h0:B.off=0)(hl:rs.length<=B.cap)(hok:∀r∈rs,Qfv z r)(cs:Array Value)(E:TypeId)
  (h1:w.heap[B.b]? = some (.cells cs E (0,0))) (h2:cs.size=B.cap*z) (h3:∀(i:Nat) r,rs[i]? = some r->∀(j:Nat) v,r[j]? = some v->∃x,cs[i*z+j]? = some x/\Dat I w x v):Qba I w B z rs:=
 ⟨hz,hl,hok,cs,E,h1,by rw [h0,Qlr];exact Nat.le_of_eq h2.symm,fun i r hi j v hj=>by rw [h0,Qlr];exact h3 i r hi j v hj⟩
def QeV (I:Nat->Prop)(w:World)(B:Blk)(l:List (V×V)):Prop:=
 ∃es clock,w.heap[B.b]? = some (.map es clock)/\MapKept.Stamped es clock/\(l.map Prod.fst).Nodup/\es.size=l.length/\
  (∀x∈es.toList,∃p∈l,Dat I w x.key p.1/\Dat I w x.val p.2)/\∀p∈l,∃x∈es.toList,Dat I w x.key p.1/\Dat I w x.val p.2
def QeW (I:Nat->Prop)(w:World)(B:Blk)(z:Nat)(l:List (V×List (List V)))(out:Option V):Prop:=
 ∃es clock,w.heap[B.b]? = some (.map es clock)/\MapKept.Stamped es clock/\(l.map Prod.fst).Nodup/\es.size=l.length/\
  ∃bs:List (Option Blk),bs.length=l.length/\B.more=bs.filterMap (Option.map Blk.b)/\(B.b::B.more).Nodup/\
   (∀(i:Nat) (x:MapEntry) E,es[i]? = some x->bs[i]? = some E->∃p∈l,Dat I w x.key p.1/\((∃F,E=some F/\F.more=[]/\out≠some p.1/\Qba I w F z p.2/\x.val=.slice (some ⟨F.b,F.off,none⟩) p.2.length F.cap)\/(E=none/\out=some p.1)))/\
   (∀p∈l,∃(i:Nat) (x:MapEntry),es[i]? = some x/\Dat I w x.key p.1)
def Qgr (I:Nat->Prop)(w:World)(B:Blk)(bm clock:Nat)(L:List (Nat×(V×V)))(l:List (V×V)):Prop:=
 B.b=bm/\∃M:List (MapEntry×(V×V)),M.map (fun q=>(q.1.born,q.2))=L/\w.heap[B.b]? = some (.map (M.map Prod.fst).toArray clock)/\MapKept.Stamped (M.map Prod.fst).toArray clock/\(l.map Prod.fst).Nodup/\(M.map Prod.snd).Perm l/\
  ∀q∈M,Dat I w q.1.key q.2.1/\Dat I w q.1.val q.2.2
def Qo1 (w:World)(B:Blk)(bm since:Nat)(seen:Array Nat)(cur:Option Nat):Prop:=
 w.heap[B.b]? = some (.mapIter (some bm) since seen since)/\B.off=0/\∀x,cur=some x->∃s0:Array Nat,seen=s0.push x
def jmp : Nat->Option Code
 | 0=>none
 | 1=>none
 | 2=>some .ret
 | k+3=>some (.exit k)
def lst : Nat->LoopState
 | 0=>.ready
 | 1=>.busy
 | _=>.done
def QCI (φ:Nat->Option Blk)(I:Nat->Prop)(w:World)(B:Blk)(l:Nat)(K:QeS)(vs:List V)(q:Nat):Prop:=
 ∃tmps D,B.b=l/\B.more=[]/\w.heap[l]? = some (.loop { state:=lst q,pending:=jmp q,fn:=K.fn,tmps,params:=K.ps,assign:=K.assign,body:=K.body,defers:=D })/\tmps.size=vs.length/\
  ∀(j:Nat) x v,tmps[j]? = some x->vs[j]? = some v->Rep φ I w x v
def Qo2 (w:World)(B:Blk)(x:Value)(v:V):Prop:=Dat B.has w x v/\∀k,B.has k->∃cs E,w.heap[k]? = some (.cells cs E (0,0))
theorem Qo2.mono {w w':World}{B:Blk}(hB:∀k,B.has k->w'.heap[k]? = w.heap[k]?){x:Value}{v:V}(d:Qo2 w B x v):Qo2 w' B x v:=
 ⟨d.1.mono fun k hk=>⟨hk,hB k hk⟩,fun k hk=>let ⟨cs,E,h⟩:=d.2 k hk;⟨cs,E,(hB k hk).trans h⟩⟩
def Qo3 (w:World)(B:Blk)(D:Nat->Nat->Prop)(H:Nat->Nat->Value->Prop):Prop:=
 (∀b i,D b i->B.has b/\∃cs E n,w.heap[b]? = some (.cells cs E (0,0))/\cs[i]? = some (.int .i64 n))/\∀b i y,H b i y->B.has b/\¬D b i/\w.cell? ⟨b,i,none⟩=some y
theorem Qo3.mono {w w':World}{B:Blk}(hB:∀k,B.has k->w'.heap[k]? = w.heap[k]?){D:Nat->Nat->Prop}{H:Nat->Nat->Value->Prop}(d:Qo3 w B D H):Qo3 w' B D H:=
 ⟨fun b i h=>let ⟨h1,cs,E,n,h2,h3⟩:=d.1 b i h;⟨h1,cs,E,n,(hB b h1).trans h2,h3⟩,fun b i y h=>let ⟨h1,h2,h3⟩:=d.2 b i y h;⟨h1,h2,(World.cell?_of_block (hB b h1)).trans h3⟩⟩
def QbN (φ:Nat->Option Blk)(I:Nat->Prop)(w:World)(B:Blk):Ob->Prop
 | .var vs=>QDh φ I w B vs
 | .lp l K vs q=>QCI φ I w B l K vs q
 | .arr z rs=>Qba I w B z rs
 | .map l=>QeV I w B l
 | .grp z l out=>QeW I w B z l out
 | .mapX bm clock L l=>Qgr I w B bm clock L l
 | .itr bm since seen cur=>Qo1 w B bm since seen cur
 | .itr0=>∃s c,w.heap[B.b]? = some (.mapIter none 0 s c)/\B.off=0
 | .tbl A z rs=>QfS I w B A z rs
 | .nst x v=>Qo2 w B x v
 | .scr D H=>Qo3 w B D H
theorem Qba.monoC {I I':Nat->Prop}{w w':World}(h:∀k,I k->I' k/\Kp w w' k){B:Blk}(hB:w'.heap[B.b]? = w.heap[B.b]?){z:Nat}{rs:List (List V)}(d:Qba I w B z rs):
  Qba I' w' B z rs:=by
 obtain⟨h1,h2,h3,cs,E,h4,h5,h6⟩:=d
 exact⟨h1,h2,h3,cs,E,hB.trans h4,h5,fun i r hi j v hj=>let ⟨x,hx,hr⟩:=h6 i r hi j v hj;⟨x,hx,hr.monoC h⟩⟩
theorem Qba.mono {I I':Nat->Prop}{w w':World}(h:∀k,I k->I' k/\w'.heap[k]? = w.heap[k]?){B:Blk}(hB:w'.heap[B.b]? = w.heap[B.b]?){z:Nat}{rs:List (List V)}(d:Qba I w B z rs):
  Qba I' w' B z rs:=
 Qba.monoC (fun k hk=>⟨(h k hk).1,Kp.of (h k hk).2⟩) hB d
theorem QeV.monoC {I I':Nat->Prop}{w w':World}(h:∀k,I k->I' k/\Kp w w' k){B:Blk}(hB:w'.heap[B.b]? = w.heap[B.b]?){l:List (V×V)}(d:QeV I w B l):QeV I' w' B l:=by
 obtain⟨es,clock,h1,h2,h3,h4,h5,h6⟩:=d
 exact⟨es,clock,hB.trans h1,h2,h3,h4,fun x hx=>let ⟨p,hp,a,b⟩:=h5 x hx;⟨p,hp,a.monoC h,b.monoC h⟩,fun p hp=>let ⟨x,hx,a,b⟩:=h6 p hp;⟨x,hx,a.monoC h,b.monoC h⟩⟩
theorem QeV.mono {I I':Nat->Prop}{w w':World}(h:∀k,I k->I' k/\w'.heap[k]? = w.heap[k]?){B:Blk}(hB:w'.heap[B.b]? = w.heap[B.b]?){l:List (V×V)}(d:QeV I w B l):QeV I' w' B l:=
 QeV.monoC (fun k hk=>⟨(h k hk).1,Kp.of (h k hk).2⟩) hB d
theorem QBT {bs:List (Option Blk)}{i:Nat}{F:Blk}(h:bs[i]? = some (some F)):F.b∈bs.filterMap (Option.map Blk.b):=List.mem_filterMap.2 ⟨some F,Qaa h,rfl⟩
theorem QeW.monoC {I I':Nat->Prop}{w w':World}(h:∀k,I k->I' k/\Kp w w' k){B:Blk}(hB:∀k,B.has k->w'.heap[k]? = w.heap[k]?){z:Nat}{l:List (V×List (List V))}{out:Option V}(d:QeW I w B z l out):QeW I' w' B z l out:=by
 obtain⟨es,clock,h1,h2,h3,h4,bs,h5,h6,h7,h8,h9⟩:=d
 refine⟨es,clock,(hB _ B.self).trans h1,h2,h3,h4,bs,h5,h6,h7,fun i x E hx hE=>?_,fun p hp=>let ⟨i,x,a,b⟩:=h9 p hp;⟨i,x,a,b.monoC h⟩⟩
 obtain⟨p,hp,a1,a2⟩:=h8 i x E hx hE
 refine⟨p,hp,a1.monoC h,a2.imp (fun ⟨F,c0,c1,c2,c3,c4⟩=>⟨F,c0,c1,c2,c3.monoC h (hB _ (.inr ?_)),c4⟩) id⟩
 subst c0
 rw [h6];exact QBT hE
theorem QeW.mono {I I':Nat->Prop}{w w':World}(h:∀k,I k->I' k/\w'.heap[k]? = w.heap[k]?){B:Blk}(hB:∀k,B.has k->w'.heap[k]? = w.heap[k]?){z:Nat}{l:List (V×List (List V))}{out:Option V}(d:QeW I w B z l out):QeW I' w' B z l out:=
 QeW.monoC (fun k hk=>⟨(h k hk).1,Kp.of (h k hk).2⟩) hB d
theorem Qgr.monoC {I I':Nat->Prop}{w w':World}(h:∀k,I k->I' k/\Kp w w' k){B:Blk}(hB:w'.heap[B.b]? = w.heap[B.b]?){bm clock:Nat}{L:List (Nat×(V×V))}{l:List (V×V)}(d:Qgr I w B bm clock L l):Qgr I' w' B bm clock L l:=by
 obtain⟨h1,M,h0,h2,h3,h4,h5,h6⟩:=d
 exact⟨h1,M,h0,hB.trans h2,h3,h4,h5,fun q hq=>⟨(h6 q hq).1.monoC h,(h6 q hq).2.monoC h⟩⟩
theorem Qgr.mono {I I':Nat->Prop}{w w':World}(h:∀k,I k->I' k/\w'.heap[k]? = w.heap[k]?){B:Blk}(hB:w'.heap[B.b]? = w.heap[B.b]?){bm clock:Nat}{L:List (Nat×(V×V))}{l:List (V×V)}(d:Qgr I w B bm clock L l):Qgr I' w' B bm clock L l:=
 Qgr.monoC (fun k hk=>⟨(h k hk).1,Kp.of (h k hk).2⟩) hB d
theorem Qo1.mono {w w':World}{B:Blk}(hB:w'.heap[B.b]? = w.heap[B.b]?){bm since:Nat}{seen:Array Nat}{cur:Option Nat}(d:Qo1 w B bm since seen cur):Qo1 w' B bm since seen cur:=
 ⟨hB.trans d.1,d.2⟩
theorem QbN.monoC {φ φ':Nat->Option Blk}{I I':Nat->Prop}{w w':World}(hφ:∀o B,φ o=some B->φ' o=some B)(h:∀k,I k->I' k/\Kp w w' k)
  {B:Blk} (hB:∀k,B.has k->w'.heap[k]? = w.heap[k]?) {ob:Ob} (d:QbN φ I w B ob):QbN φ' I' w' B ob:=by
 cases ob with
 | var vs=>
  obtain⟨cs,E,h1,h2,h0,h3⟩:=d
  exact⟨cs,E,(hB _ B.self).trans h1,h2,h0,fun j x v hx hv=>(h3 j x v hx hv).monoC hφ h⟩
 | lp l K vs q=>
  obtain⟨tmps,D,rfl,h1,h2,h3,h4⟩:=d
  exact⟨tmps,D,rfl,h1,(hB _ B.self).trans h2,h3,fun j x v hx hv=>(h4 j x v hx hv).monoC hφ h⟩
 | arr z rs=>exact Qba.monoC h (hB _ B.self) d
 | map l=>exact QeV.monoC h (hB _ B.self) d
 | grp z l lk=>exact QeW.monoC h hB d
 | mapX bm clock L l=>exact Qgr.monoC h (hB _ B.self) d
 | itr bm since seen cur=>exact Qo1.mono (hB _ B.self) d
 | itr0=>obtain⟨s,c,h1⟩:=d;exact⟨s,c,(hB _ B.self).trans h1.1,h1.2⟩
 | tbl A z rs=>exact QfS.monoC h hB d
 | nst x v=>exact Qo2.mono hB d
 | scr D H=>exact Qo3.mono hB d
theorem QbN.mono {φ φ':Nat->Option Blk}{I I':Nat->Prop}{w w':World}(hφ:∀o B,φ o=some B->φ' o=some B)(h:∀k,I k->I' k/\w'.heap[k]? = w.heap[k]?)
  {B:Blk} (hB:∀k,B.has k->w'.heap[k]? = w.heap[k]?) {ob:Ob} (d:QbN φ I w B ob):QbN φ' I' w' B ob:=
 QbN.monoC hφ (fun k hk=>⟨(h k hk).1,Kp.of (h k hk).2⟩) hB d
def look {α:Type}:List (Nat×α)->Nat->Option α
 | [],_=>none
 | (k,v)::r,t=>bif Nat.beq k t then some v else look r t
theorem Qv {α:Type}(k:Nat)(v:α)(r:List (Nat×α)):look ((k,v)::r) k=some v:=by simp [look]
theorem Qr {α:Type}{k t:Nat}(v:α)(r:List (Nat×α))(h:k≠t):look ((k,v)::r) t=look r t:=by
 have:Nat.beq k t=false:=by
  cases hb:Nat.beq k t with
  | false=>rfl
  | true=>exact absurd (QaL hb) h
 simp [look,this]
structure St where
 fr:List (Nat×V)
 hp:List (Nat×Ob)
def St.put (σ:St)(t:Nat)(v:V):St:={ fr:=(t,v)::σ.fr,hp:=σ.hp }
def St.set (σ:St)(o:Nat)(ob:Ob):St:={ fr:=σ.fr,hp:=(o,ob)::σ.hp }
def Qgs : Value->V
 | .bool x=>.b x
 | .int k n=>.i k n
 | .string x=>.s x
 | x=>.lit x
def St.opd (σ:St):Operand->Option V
 | .tmp t=>look σ.fr t
 | .const v=>some (Qgs v)
 | .func f=>some (.clo (.func f) [] [])
 | .global g=>some (.lit (.pointer (some ⟨g,0,none⟩)))
structure Ctx where
 w0:World
 S:Nat->Prop
 W:Nat->Prop
 n:Nat
 φ0:Nat->Option Blk
 small:n<=616
 rnd:Option Nat:=none
def Ctx.F (C:Ctx):Fence:={ fn:=fun _=>True,depth:=none,alive:=false,round:=C.rnd }
def QyF (b:Nat)(I:Nat->Prop)(w:World)(ds:List Deferred):Prop:=∃Ds:List Nat,ds=Ds.map (fun D=>{ target:=.collected D,args:=#[] })/\Ds.Nodup/\∀D∈Ds,b<=D/\I D/\w.heap[D]? = some (.deferred (some []))
theorem QyF.mono {b:Nat}{I I':Nat->Prop}{w w':World}(h:∀k,I k->I' k/\w'.heap[k]? = w.heap[k]?){ds:List Deferred}(m:QyF b I w ds):QyF b I' w' ds:=by
 obtain⟨Ds,h1,h2,h3⟩:=m
 exact⟨Ds,h1,h2,fun D hD=>let ⟨a1,a2,a3⟩:=h3 D hD;⟨a1,(h D a2).1,(h D a2).2.trans a3⟩⟩
def Imm (C:Ctx)(φ:Nat->Option Blk)(w:World)(k:Nat):Prop:=
 k<w.heap.size/\(k<C.w0.heap.size->C.S k)/\∀o B,φ o=some B->¬B.has k
def Qqp (φ0 φ:Nat->Option Blk)(hp:List (Nat×Ob)):Prop:=(∀o B,616<=o->φ o=some B->φ0 o=some B)/\∀o ob B,616<=o->look hp o=some ob->φ0 o=some B->φ o=some B
theorem Qqp.sub {φ0 φ:Nat->Option Blk}{hp hp':List (Nat×Ob)}(h:Qqp φ0 φ hp)(hs:∀o ob,look hp' o=some ob->∃ob',look hp o=some ob'):Qqp φ0 φ hp':=
 ⟨h.1,fun o ob B h1 h2 h3=>let ⟨ob',h4⟩:=hs o ob h2;h.2 o ob' B h1 h4 h3⟩
structure RR (C:Ctx) (φ:Nat->Option Blk) (σ:St) (a:Act) (w:World):Prop where
 os:w.os=C.w0.os
 tape:w.tape=C.w0.tape
 output:w.output=C.w0.output
 size:C.w0.heap.size<=w.heap.size
 kept:∀k,k<C.w0.heap.size->¬C.W k->w.heap[k]? = C.w0.heap[k]?
 inj:∀o o' B B' k,φ o=some B->φ o'=some B'->B.has k->B'.has k->o=o'
 dom:∀o B,φ o=some B->∃ob,look σ.hp o=some ob
 lt:∀o B k,φ o=some B->B.has k->k<w.heap.size/\(k<C.w0.heap.size->C.W k)
 new:∀o B k,φ o=some B->B.has k->o<614->C.w0.heap.size<=k
 stay:Qqp C.φ0 φ σ.hp
 tmps:a.tmps.size=C.n
 defers:QyF C.w0.heap.size (Imm C φ w) w a.defers
 frame:∀t v,look σ.fr t=some v->∃x,a.tmps[t]? = some x/\Rep φ (Imm C φ w) w x v
 heap:∀o ob,look σ.hp o=some ob->(∃B,φ o=some B/\QbN φ (Imm C φ w) w B ob)\/(φ o=none/\ob.Nil)
def R (C:Ctx)(σ:St)(a:Act)(w:World):Prop:=∃φ,RR C φ σ a w
section
variable {C:Ctx}{φ:Nat->Option Blk}{σ:St}{a:Act}{w:World}
theorem RR.opd (h:RR C φ σ a w){x:Operand}{v:V}(hv:σ.opd x=some v):Rep φ (Imm C φ w) w (a.eval x) v:=by
 cases x with
 | tmp t=>
  obtain⟨x,hx,hr⟩:=h.frame t v hv
  simpa [Act.eval,Qo0,hx] using hr
 | const c=>
  simp only [St.opd,Option.some.injEq]at hv;subst hv
  cases c<;>first | exact .dat (.b _) | exact .dat (.i _ _) | exact .dat (.s _) | exact .dat (.lit _)
 | global g=>simp only [St.opd,Option.some.injEq]at hv;subst hv;exact .dat (.lit _)
 | func f=>simp only [St.opd,Option.some.injEq]at hv;subst hv;exact .clo (.func f) #[] #[] [] [] rfl rfl (fun j x v h=>by simp at h) (fun j x v h=>by simp at h)
theorem RR.put (h:RR C φ σ a w){t:Nat}{x:Value}{v:V}(ht:t<C.n)(hx:Rep φ (Imm C φ w) w x v):RR C φ (σ.put t v) (a.put (some t) x) w:=by
 refine⟨h.os,h.tape,h.output,h.size,h.kept,h.inj,h.dom,h.lt,h.new,h.stay,by simpa [Act.put] using h.tmps,h.defers,?_,h.heap⟩
 intro t' v' hv'
 by_cases ht':t=t'
 ·subst ht'
  rw [St.put,Qv]at hv';cases hv'
  exact⟨x,by simp [Act.put,Qq4,h.tmps,ht],hx⟩
 rw [St.put,Qr _ _ ht']at hv'
 obtain⟨y,hy,hr⟩:=h.frame t' v' hv'
 exact⟨y,by simpa [Act.put,Qq4,ht'] using hy,hr⟩
theorem RR.le (h:RR C φ σ a w){fr:List (Nat×V)}(hf:∀t v,look fr t=some v->look σ.fr t=some v):RR C φ ⟨fr,σ.hp⟩ a w:=
 ⟨h.os,h.tape,h.output,h.size,h.kept,h.inj,h.dom,h.lt,h.new,h.stay,h.tmps,h.defers,fun t v hv=>h.frame t v (hf t v hv),h.heap⟩
theorem RR.step (h:RR C φ σ a w){w':World}(ho:w'.os=w.os)(ht:w'.tape=w.tape)(hu:w'.output=w.output)(hs:w.heap.size<=w'.heap.size)
  (hk:∀k,k<w.heap.size->w'.heap[k]? = w.heap[k]?):RR C φ σ a w':=by
 have hI:∀k,Imm C φ w k->Imm C φ w' k/\w'.heap[k]? = w.heap[k]? := fun k hk'=>⟨⟨Qg8 hk'.1 hs,hk'.2⟩,hk k hk'.1⟩
 refine⟨ho.trans h.os,ht.trans h.tape,hu.trans h.output,QbM h.size hs,fun k h1 h2=>(hk k (Qg8 h1 h.size)).trans (h.kept k h1 h2),h.inj,h.dom,
  fun o B k hB hk=>⟨Qg8 (h.lt o B k hB hk).1 hs,(h.lt o B k hB hk).2⟩,h.new,h.stay,h.tmps,h.defers.mono hI,?_,?_⟩
 ·intro t v hv
  obtain⟨x,hx,hr⟩:=h.frame t v hv
  exact⟨x,hx,hr.mono (fun _ _ h=>h) hI⟩
 intro o ob hob
 rcases h.heap o ob hob with⟨B,hB,hr⟩|hn
 ·exact .inl ⟨B,hB,hr.mono (fun _ _ h=>h) hI fun k hk'=>hk _ (h.lt o B k hB hk').1⟩
 exact .inr hn
end
end Go.Vm
namespace Go.Vm
open Go Go.RowKit
inductive Qo4 {σ ρ:Type} (body:σ->Option (σ⊕ρ)):σ->ρ->Prop where
 | done {s:σ} {r:ρ}:body s=some (.inr r)->Qo4 body s r
 | next {s s':σ} {r:ρ}:body s=some (.inl s')->Qo4 body s' r->Qo4 body s r
theorem Qo4.det {σ ρ:Type}{body:σ->Option (σ⊕ρ)}{s:σ}{r r':ρ}(h:Qo4 body s r)(h':Qo4 body s r'):r=r':=by
 induction h with
 | done h=>cases h' with
  | done h2=>rw [h]at h2;cases h2;rfl
  | next h2 _=>rw [h]at h2;cases h2
 | next h _ ih=>cases h' with
  | done h2=>rw [h]at h2;cases h2
  | next h2 h3=>rw [h]at h2;cases h2;exact ih h3
def loopN {σ ρ:Type}(body:σ->Option (σ⊕ρ)):Nat->σ->Option ρ
 | 0,_=>none
 | n+1,s=>match body s with
  | none=>none
  | some (.inl s')=>loopN body n s'
  | some (.inr r)=>some r
theorem QzZ {σ ρ:Type}{body:σ->Option (σ⊕ρ)}{r:ρ}:∀(n:Nat) (s:σ),loopN body n s=some r->Qo4 body s r:=by
 intro n
 induction n with
 | zero=>intro s h;cases h
 | succ n ih=>
  intro s h
  rw [loopN]at h
  split at h
  ·cases h
  ·rename_i s' hb;exact .next hb (ih s' h)
  rename_i r' hb;cases h;exact .done hb
open Classical in
noncomputable def Qz {σ ρ:Type}(body:σ->Option (σ⊕ρ))(s:σ):Option ρ:=match loopN body 5000 s with
 | some r=>some r
 | none=>if h:∃r,Qo4 body s r then some h.choose else none
theorem Qny {σ ρ:Type}{body:σ->Option (σ⊕ρ)}{s:σ}{r:ρ}:Qz body s=some r↔Qo4 body s r:=by
 unfold Qz
 split
 ·rename_i r' hr
  have h0:=QzZ _ _ hr
  exact⟨fun h=>by cases h;exact h0,fun h=>congrArg some (h0.det h)⟩
 constructor
 ·intro h
  split at h
  ·rename_i hx;cases h;exact hx.choose_spec
  cases h
 intro h
 rw [dif_pos ⟨r,h⟩]
 exact congrArg some ((Exists.choose_spec (⟨r,h⟩:∃r,Qo4 body s r)).det h)
theorem QaU {σ ρ:Type}(body:σ->Option (σ⊕ρ))(s:σ):
  Qz body s=(body s).bind fun x=>match x with | .inl s'=>Qz body s' | .inr r=>some r:=by
 apply Option.ext
 intro r
 rw [Qny]
 constructor
 ·intro h
  cases h with
  | done h=>simp [h]
  | next h h'=>simp [h,Qny.2 h']
 intro h
 cases hb:body s with
 | none=>simp [hb]at h
 | some x=>
  cases x with
  | inl s'=>simp [hb]at h;exact .next hb (Qny.1 h)
  | inr r'=>simp [hb]at h;subst h;exact .done hb
theorem Qwv {P:Program}{ro:Option Nat}{ρ:Operand->Value}{o:Oper}{w w':World}{v:Value}(h:(execOp ρ o).run P w=.ok (.value v) w'):(o.semAt ro ρ).run P w=.ok (.value v) w':=by
 have hn:∀c,o.op≠.defer c:=fun c e=>by
  simp only [execOp,e,Sem.run_bind]at h
  cases hr:(resolve ρ c o.type).run P w<;>rw [hr]at h<;>simp [Result.andThen]at h
 rwa [Oper.semAt_eq _ _ _ hn]
theorem QCR {P:Program}{ro:Option Nat}{ρ:Operand->Value}{o:Oper}{w w':World}(h:(execOp ρ o).run P w=.ok .skip w'):(o.semAt ro ρ).run P w=.ok .skip w':=by
 have hn:∀c,o.op≠.defer c:=fun c e=>by
  simp only [execOp,e,Sem.run_bind]at h
  cases hr:(resolve ρ c o.type).run P w<;>rw [hr]at h<;>simp [Result.andThen]at h
 rwa [Oper.semAt_eq _ _ _ hn]
theorem Qrs {P:Program}{ro:Option Nat}{ρ:Operand->Value}{o:Oper}{w w':World}{f:FuncId}{xs:Array Value}(h:(execOp ρ o).run P w=.ok (.enter f xs) w'):(o.semAt ro ρ).run P w=.ok (.enter f xs) w':=by
 have hn:∀c,o.op≠.defer c:=fun c e=>by
  simp only [execOp,e,Sem.run_bind]at h
  cases hr:(resolve ρ c o.type).run P w<;>rw [hr]at h<;>simp [Result.andThen]at h
 rwa [Oper.semAt_eq _ _ _ hn]
theorem Qo5 {C:Ctx}{n:Nat}{P:Program}{f:FuncId}{args:Array Value}{w:World}{R:Ending->World->Prop}(h:Calls P f args w R):CallsIn C.F n P f args w R:=
 (callsIn_wide (n:=n)).2 h
def up (C:Ctx)(Q:Exit->St->Prop):Exit->Act->World->Prop:=fun e a w=>∃σ,Q e σ/\R C σ a w
def AWp (P:Program)(C:Ctx)(c:Code)(σ:St)(Q:Exit->St->Prop):Prop:=∀a w,R C σ a w->c.wpIn C.F 0 P (up C Q) a w
def Qsd (K:St->Prop)(Q:Exit->St->Prop):Exit->St->Prop
 | .normal,σ=>K σ
 | e,σ=>Q e σ
def Qo6 (id:Nat)(Q:Exit->St->Prop):Exit->St->Prop
 | .exit id',σ=>bif Nat.beq id' id then Q .normal σ else Q (.exit id') σ
 | e,σ=>Q e σ
section
variable {P:Program}{C:Ctx}{σ:St}{Q:Exit->St->Prop}
theorem AWp.mono {c:Code}{Q':Exit->St->Prop}(h:AWp P C c σ Q)(hq:∀e σ,Q e σ->Q' e σ):AWp P C c σ Q':=
 fun a w hR=>wpIn_mono (h a w hR) fun e a w ⟨σ,h1,h2⟩=>⟨σ,hq e σ h1,h2⟩
theorem AWp.seq {x y:Code}(h:AWp P C x σ (Qsd (fun σ'=>AWp P C y σ' Q) Q)):AWp P C (.seq x y) σ Q:=by
 intro a w hR
 refine wpIn_seq (wpIn_mono (h a w hR) ?_)
 rintro e a' w' ⟨σ',hq,hR'⟩
 cases e with
 | normal=>exact hq a' w' hR'
 | _=>exact⟨σ',hq,hR'⟩
theorem AWp.cond_true {c:Operand}{x y:Code}(hc:σ.opd c=some (.b true))(h:AWp P C x σ Q):AWp P C (.cond c x y) σ Q:=
 fun a w hR=>let ⟨_,hr⟩:=hR;wpIn_cond_true (hr.opd hc).b_inv (h a w hR)
theorem AWp.cond_false {c:Operand}{x y:Code}(hc:σ.opd c=some (.b false))(h:AWp P C y σ Q):AWp P C (.cond c x y) σ Q:=
 fun a w hR=>let ⟨_,hr⟩:=hR;wpIn_cond_false (hr.opd hc).b_inv (h a w hR)
theorem AWp.condT {c:Operand}{x y:Code}{t:Bool}(hc:σ.opd c=some (.b t))(ht:t=true)(h:AWp P C x σ Q):AWp P C (.cond c x y) σ Q:=
 AWp.cond_true (ht▸hc) h
theorem AWp.condF {c:Operand}{x y:Code}{t:Bool}(hc:σ.opd c=some (.b t))(ht:t=false)(h:AWp P C y σ Q):AWp P C (.cond c x y) σ Q:=
 AWp.cond_false (ht▸hc) h
theorem AWp.skip (h:Q .normal σ):AWp P C .skip σ Q:=fun a w hR=>wpIn_skip ⟨σ,h,hR⟩
theorem AWp.exit {id:Nat}(h:Q (.exit id) σ):AWp P C (.exit id) σ Q:=fun a w hR=>wpIn_exit ⟨σ,h,hR⟩
theorem AWp.ret (h:Q .ret σ):AWp P C .ret σ Q:=fun a w hR=>wpIn_ret ⟨σ,h,hR⟩
theorem AWp.label {l:Nat}(h:Q .normal σ):AWp P C (.label l) σ Q:=fun a w hR=>wpIn_label ⟨σ,h,hR⟩
theorem AWp.block {id:Nat}{c:Code}(h:AWp P C c σ (Qo6 id Q)):AWp P C (.block id c) σ Q:=by
 intro a w hR
 refine wpIn_block (wpIn_mono (h a w hR) ?_)
 rintro e a' w' ⟨σ',hq,hR'⟩
 cases e with
 | exit id'=>
  simp only [Exit.inBlock,Qo6]at *
  cases hb:Nat.beq id' id with
  | true=>rw [hb]at hq;rw [if_pos (QaL hb)];exact⟨σ',hq,hR'⟩
  | false=>rw [hb]at hq;rw [if_neg (fun e=>by subst e;simp at hb)];exact⟨σ',hq,hR'⟩
 | _=>exact⟨σ',hq,hR'⟩
theorem AWp.weaken {c:Code}{σ':St}(h:∀a w,R C σ a w->R C σ' a w)(k:AWp P C c σ' Q):AWp P C c σ Q:=fun a w hR=>k a w (h a w hR)
theorem QEq {id id':Nat}(he:Nat.beq id' id=true)(h:Q .normal σ):Qo6 id Q (.exit id') σ:=by
 show(bif Nat.beq id' id then _ else _);rw [he];exact h
theorem QEr {id id':Nat}(he:Nat.beq id' id=false)(h:Q (.exit id') σ):Qo6 id Q (.exit id') σ:=by
 show(bif Nat.beq id' id then _ else _);rw [he];exact h
theorem AWp.seqK {x y:Code}(K:St->Prop)(hx:AWp P C x σ (Qsd K Q))(hy:∀σ',K σ'->AWp P C y σ' Q):AWp P C (.seq x y) σ Q:=
 AWp.seq (hx.mono fun e σ' h=>by cases e<;>first | exact hy σ' h | exact h)
theorem AWp.cut {x:Code}(K:St->Prop)(hx:AWp P C x σ (Qsd K Q))(hy:∀σ',K σ'->Q .normal σ'):AWp P C x σ Q:=
 hx.mono fun e σ' h=>by cases e<;>first | exact hy σ' h | exact h
theorem AWp.loop {τ ρ:Type}{body:τ->Option (τ⊕ρ)}{c:Code}(E:τ->St->Prop)(Post:ρ->Exit->St->Prop){s0:τ}{r:ρ}
  (round:∀s o σ,E s σ->body s=some o->AWp P C c σ (Qsd (fun σ'=>∃s',o=.inl s'/\E s' σ') (fun e σ'=>∃r,o=.inr r/\Post r e σ')))
  (hr:Qo4 body s0 r) (h0:E s0 σ) (hQ:∀e σ',Post r e σ'->Q e σ'):AWp P C (.loop c) σ Q:=by
 have key:∃n,∀σ a w,E s0 σ->R C σ a w->Code.roundsIn C.F 0 P c (up C Q) n a w:=by
  clear h0
  induction hr with
  | done hb=>
   refine⟨1,fun σ a w hE hR=>?_⟩
   rw [roundsIn_succ]
   refine wpIn_mono (round _ _ σ hE hb a w hR) ?_
   rintro e a' w' ⟨σ',hq,hR'⟩
   cases e with
   | normal=>obtain⟨s',h,_⟩:=hq;cases h
   | _=>obtain⟨r,h,hp⟩:=hq;cases h;exact⟨σ',hQ _ _ hp,hR'⟩
  | next hb hn ih=>
   obtain⟨n,hn⟩:=ih hQ
   refine⟨n+1,fun σ a w hE hR=>?_⟩
   rw [roundsIn_succ]
   refine wpIn_mono (round _ _ σ hE hb a w hR) ?_
   rintro e a' w' ⟨σ',hq,hR'⟩
   cases e with
   | normal=>obtain⟨s',h,hE'⟩:=hq;cases h;exact hn σ' a' w' hE' hR'
   | _=>obtain⟨r,h,hp⟩:=hq;cases h
 obtain⟨n,hn⟩:=key
 exact fun a w hR=>wpIn_loop_rounds n (hn σ a w h0 hR)
end
def AL (P:Program)(C:Ctx)(ops:Array Oper)(l:List Oper)(σ:St)(Q:Exit->St->Prop):Prop:=∀a w,R C σ a w->wpListIn C.F 0 P ops (up C Q) l a w
def Stp (P:Program)(C:Ctx)(o:Oper)(σ σ':St):Prop:=
 ∀a w,R C σ a w->∀(next:Act->World->Prop) (Q:Exit->Act->World->Prop),(∀a' w',R C σ' a' w'->next a' w')->o.wpIn C.F 0 P a w next Q
section
variable {P:Program}{C:Ctx}{ops:Array Oper}{σ σ':St}{Q:Exit->St->Prop}{o:Oper}{rest:List Oper}
theorem AWp.region {id:Nat}(h:AL P C ops ops.toList σ Q):AWp P C (.region id ops false) σ Q:=by
 intro a w hR
 exact wpIn_region_list (h a w hR)
theorem AL.nil (h:Q .normal σ):AL P C ops [] σ Q:=fun a w hR=>⟨σ,h,hR⟩
theorem AL.weaken (h:∀a w,R C σ a w->R C σ' a w)(k:AL P C ops rest σ' Q):AL P C ops rest σ Q:=fun a w hR=>k a w (h a w hR)
theorem AL.cons (hg:o.guard=none)(h:Stp P C o σ σ')(k:AL P C ops rest σ' Q):AL P C ops (o::rest) σ Q:=by
 intro a w hR
 simp only [wpListIn,Region.wanted,hg,if_true]
 exact(h a w hR _ _ fun a' w' hR'=>k a' w' hR')
theorem R.yielded {a:Act}{w:World}(hR:R C σ a w){j d:Nat}{t:Bool}(hj:((ops[j]?).bind (·.dst))=some d)(hv:look σ.fr d=some (.b t)):yielded ops a.tmps j=some t:=by
 obtain⟨φ,hr⟩:=hR
 obtain⟨x,hx,hrep⟩:=hr.frame d _ hv
 rw [hrep.b_inv]at hx
 simp [Go.yielded,hj,hx]
theorem AL.consG {j d:Nat}{t:Bool}(hg:o.guard=some (j,t))(hj:((ops[j]?).bind (·.dst))=some d)(hv:look σ.fr d=some (.b t))(h:Stp P C o σ σ')(k:AL P C ops rest σ' Q):
  AL P C ops (o::rest) σ Q:=by
 intro a w hR
 simp only [wpListIn,Region.wanted,hg,hR.yielded hj hv]
 simp only [beq_self_eq_true,if_true]
 exact(h a w hR _ _ fun a' w' hR'=>k a' w' hR')
theorem AL.consGT {j d:Nat}{c t:Bool}(hg:o.guard=some (j,t))(hj:((ops[j]?).bind (·.dst))=some d)(hv:look σ.fr d=some (.b c))(hc:c=t)(h:Stp P C o σ σ')(k:AL P C ops rest σ' Q):
  AL P C ops (o::rest) σ Q:=AL.consG hg hj (hc▸hv) h k
theorem AL.consN {j d t:Nat}{u:Bool}(hg:o.guard=some (j,!u))(hj:((ops[j]?).bind (·.dst))=some d)(hv:look σ.fr d=some (.b u))(ho:o.dst=some t)(ht:t<C.n)
  (k:AL P C ops rest (σ.put t (.lit undef)) Q):AL P C ops (o::rest) σ Q:=by
 intro a w hR
 simp only [wpListIn,Region.wanted,hg,hR.yielded hj hv]
 rw [if_neg (by cases u<;>decide)]
 refine⟨fun _ _=>trivial,k _ _ ?_⟩
 obtain⟨φ,hr⟩:=hR
 rw [ho]
 exact⟨φ,hr.put ht (.dat (.lit _))⟩
theorem AL.consN0 {j d:Nat}{u:Bool}(hg:o.guard=some (j,!u))(hj:((ops[j]?).bind (·.dst))=some d)(hv:look σ.fr d=some (.b u))(ho:o.dst=none)
  (k:AL P C ops rest σ Q):AL P C ops (o::rest) σ Q:=by
 intro a w hR
 simp only [wpListIn,Region.wanted,hg,hR.yielded hj hv]
 rw [if_neg (by cases u<;>decide)]
 refine⟨fun _ _=>trivial,k _ _ ?_⟩
 rw [ho]
 exact hR
theorem AL.consNT {j d t:Nat}{c u:Bool}(hg:o.guard=some (j,u))(hj:((ops[j]?).bind (·.dst))=some d)(hv:look σ.fr d=some (.b c))(hc:c=!u)(ho:o.dst=some t)(ht:Nat.ble (t+1) C.n=true)
  (k:AL P C ops rest (σ.put t (.lit undef)) Q):AL P C ops (o::rest) σ Q:=
 AL.consN (u:=!u) (by rw [hg];simp) hj (hc▸hv) ho (QbV ht) k
theorem AL.consNT0 {j d:Nat}{c u:Bool}(hg:o.guard=some (j,u))(hj:((ops[j]?).bind (·.dst))=some d)(hv:look σ.fr d=some (.b c))(hc:c=!u)(ho:o.dst=none)
  (k:AL P C ops rest σ Q):AL P C ops (o::rest) σ Q:=
 AL.consN0 (u:=!u) (by rw [hg];simp) hj (hc▸hv) ho k
theorem R.unyielded {a:Act}{w:World}(hR:R C σ a w){j d:Nat}(hj:((ops[j]?).bind (·.dst))=some d)(hv:look σ.fr d=some (.lit undef)):Go.yielded ops a.tmps j=none:=by
 obtain⟨φ,hr⟩:=hR
 obtain⟨x,hx,hrep⟩:=hr.frame d _ hv
 rw [hrep.lit_inv]at hx
 simp [Go.yielded,hj,hx,undef]
theorem AL.consU {j d t:Nat}{u:Bool}(hg:o.guard=some (j,u))(hj:((ops[j]?).bind (·.dst))=some d)(hv:look σ.fr d=some (.lit undef))(ho:o.dst=some t)(ht:Nat.ble (t+1) C.n=true)
  (k:AL P C ops rest (σ.put t (.lit undef)) Q):AL P C ops (o::rest) σ Q:=by
 intro a w hR
 simp only [wpListIn,Region.wanted,hg,hR.unyielded hj hv]
 rw [if_neg (by simp)]
 refine⟨fun _ _=>trivial,k _ _ ?_⟩
 obtain⟨φ,hr⟩:=hR
 rw [ho]
 exact⟨φ,hr.put (QbV ht) (.dat (.lit _))⟩
theorem AL.consU0 {j d:Nat}{u:Bool}(hg:o.guard=some (j,u))(hj:((ops[j]?).bind (·.dst))=some d)(hv:look σ.fr d=some (.lit undef))(ho:o.dst=none)
  (k:AL P C ops rest σ Q):AL P C ops (o::rest) σ Q:=by
 intro a w hR
 simp only [wpListIn,Region.wanted,hg,hR.unyielded hj hv]
 rw [if_neg (by simp)]
 refine⟨fun _ _=>trivial,k _ _ ?_⟩
 rw [ho]
 exact hR
theorem Stp.val (h:∀φ a w,RR C φ σ a w->∃x w' φ',(execOp a.eval o).run P w=.ok (.value x) w'/\RR C φ' σ' (a.put o.dst x) w'):Stp P C o σ σ':=by
 intro a w ⟨φ,hr⟩ next Q hn
 obtain⟨x,w',φ',he,hr'⟩:=h φ a w hr
 refine⟨fun _ _=>trivial,?_⟩
 rw [Qwv he]
 exact hn _ _ ⟨φ',hr'⟩
theorem Stp.skp (h:∀φ a w,RR C φ σ a w->∃w' φ',(execOp a.eval o).run P w=.ok .skip w'/\RR C φ' σ' (a.put o.dst undef) w'):Stp P C o σ σ':=by
 intro a w ⟨φ,hr⟩ next Q hn
 obtain⟨w',φ',he,hr'⟩:=h φ a w hr
 refine⟨fun _ _=>trivial,?_⟩
 rw [QCR he]
 exact hn _ _ ⟨φ',hr'⟩
end
end Go.Vm
namespace Go.Vm
open Go Go.RowKit
section
variable {P:Program}{C:Ctx}{σ:St}{o:Oper}
theorem Qaj {a b:Nat}(h:Nat.ble (a+1) b=true):a<b:=QbV h
theorem Stp.same {d:Nat}{v:V}(hd:o.dst=some d)(hn:Nat.ble (d+1) C.n=true)
  (h:∀φ a w,RR C φ σ a w->∃x,(execOp a.eval o).run P w=.ok (.value x) w/\Rep φ (Imm C φ w) w x v):Stp P C o σ (σ.put d v):=by
 refine Stp.val fun φ a w hr=>?_
 obtain⟨x,he,hx⟩:=h φ a w hr
 exact⟨x,w,φ,he,by rw [hd];exact hr.put (Qaj hn) hx⟩
theorem Stp.move {x:Operand}{d:Nat}{v:V}(ho:o.op=.move x)(hd:o.dst=some d)(hn:Nat.ble (d+1) C.n=true)(hx:σ.opd x=some v):Stp P C o σ (σ.put d v):=
 Stp.same hd hn fun φ a w hr=>⟨a.eval x,by simp [execOp,ho],hr.opd hx⟩
theorem Stp.assign {x:Operand}{d:Nat}{v:V}(ho:o.op=.assign x)(hd:o.dst=some d)(hn:Nat.ble (d+1) C.n=true)(hx:σ.opd x=some v):Stp P C o σ (σ.put d v):=
 Stp.same hd hn fun φ a w hr=>⟨a.eval x,by simp [execOp,ho],hr.opd hx⟩
theorem Stp.pickT {c x y:Operand}{d:Nat}{t:Bool}{v:V}(ho:o.op=.pick c x y)(hd:o.dst=some d)(hn:Nat.ble (d+1) C.n=true)(hc:σ.opd c=some (.b t))(ht:t=true)
  (hx:σ.opd x=some v):Stp P C o σ (σ.put d v):=
 Stp.same hd hn fun φ a w hr=>⟨a.eval x,by simp [execOp,ho,(hr.opd hc).b_inv,asBool,ht],hr.opd hx⟩
theorem Stp.pickF {c x y:Operand}{d:Nat}{t:Bool}{v:V}(ho:o.op=.pick c x y)(hd:o.dst=some d)(hn:Nat.ble (d+1) C.n=true)(hc:σ.opd c=some (.b t))(ht:t=false)
  (hx:σ.opd y=some v):Stp P C o σ (σ.put d v):=
 Stp.same hd hn fun φ a w hr=>⟨a.eval y,by simp [execOp,ho,(hr.opd hc).b_inv,asBool,ht],hr.opd hx⟩
def Qz0 (op:BinOp)(k:IntKind)(a b:Int):Option V:=
 match op with
 | .add=>some (.i k (k.wrap (a+b)))
 | .sub=>some (.i k (k.wrap (a-b)))
 | .mul=>some (.i k (k.wrap (a*b)))
 | .eql=>some (.b (a==b))
 | .neq=>some (.b (a != b))
 | .lss=>some (.b (decide (a<b)))
 | .leq=>some (.b (decide (a<=b)))
 | .gtr=>some (.b (decide (b<a)))
 | .geq=>some (.b (decide (b<=a)))
 | _=>none
theorem Stp.bin {op:BinOp}{x y:Operand}{T U d:Nat}{k:IntKind}{m n:Int}{v:V}(ho:o.op=.binOp op T x y U)(hd:o.dst=some d)(hn:Nat.ble (d+1) C.n=true)
  (hx:σ.opd x=some (.i k m)) (hy:σ.opd y=some (.i k n)) (hv:Qz0 op k m n=some v):Stp P C o σ (σ.put d v):=by
 refine Stp.same hd hn fun φ a w hr=>?_
 have h1:=(hr.opd hx).i_inv
 have h2:=(hr.opd hy).i_inv
 cases op<;>simp only [Qz0,Option.some.injEq,reduceCtorEq]at hv<;>subst hv <;>
  first
  | exact⟨.int k _,by simp [execOp,ho,h1,h2,eqGuard,binOp,Op.intArith],.dat (.i _ _)⟩
  | exact⟨.bool _,by simp [execOp,ho,h1,h2,eqGuard,binOp,Op.intCmp],.dat (.b _)⟩
theorem Stp.divi {op:BinOp}{x y:Operand}{T U d:Nat}{k:IntKind}{m n:Int}{v:V}(ho:o.op=.binOp op T x y U)(hd:o.dst=some d)(hn:Nat.ble (d+1) C.n=true)
  (hx:σ.opd x=some (.i k m)) (hy:σ.opd y=some (.i k n)) (h0:n≠0) (hv:(op=.quo/\v=.i k (k.wrap (m.tdiv n)))\/(op=.rem/\v=.i k (m.tmod n))):Stp P C o σ (σ.put d v):=by
 refine Stp.same hd hn fun φ a w hr=>?_
 have h1:=(hr.opd hx).i_inv
 have h2:=(hr.opd hy).i_inv
 rcases hv with⟨rfl,rfl⟩|⟨rfl,rfl⟩ <;>
  exact⟨.int k _,by simp [execOp,ho,h1,h2,eqGuard,binOp,Op.intDiv,h0],.dat (.i _ _)⟩
theorem Stp.not {x:Operand}{T d:Nat}{t:Bool}(ho:o.op=.unOp .not T x)(hd:o.dst=some d)(hn:Nat.ble (d+1) C.n=true)(hx:σ.opd x=some (.b t)):
  Stp P C o σ (σ.put d (.b (!t))):=
 Stp.same hd hn fun φ a w hr=>⟨.bool (!t),by simp [execOp,ho,(hr.opd hx).b_inv,Op.unary],.dat (.b _)⟩
theorem Stp.neg {x:Operand}{T d:Nat}{k:IntKind}{m:Int}(ho:o.op=.unOp .neg T x)(hd:o.dst=some d)(hn:Nat.ble (d+1) C.n=true)(hx:σ.opd x=some (.i k m)):
  Stp P C o σ (σ.put d (.i k (k.wrap (0-m)))):=
 Stp.same hd hn fun φ a w hr=>⟨.int k _,by simp [execOp,ho,(hr.opd hx).i_inv,Op.unary,Op.intArith],.dat (.i _ _)⟩
def Qgp (P:Program)(t:TypeId):Option Bool:=
 match P.underlying t with
 | some (.struct _) | some (.array _ _)=>some true
 | some _=>some false
 | none=>none
def QjK (P:Program)(t:TypeId)(f:Nat):Option Nat:=
 match P.underlying t with
 | some (.struct fs)=>match fs[f]? with
  | some fl=>match P.info? fl.type with
   | some i=>if i.size=0 then none else some fl.offset
   | none=>none
  | none=>none
 | _=>none
def Qav (P:Program)(t:TypeId):Option (TypeId×Nat×Nat):=
 match P.underlying t with
 | some (.slice e)=>match P.info? e with
  | some i=>some (e,i.size,i.bytes)
  | none=>none
 | _=>none
def Qqq (P:Program)(t:TypeId):Option (Nat×Nat):=
 match P.underlying t with
 | some (.array n e)=>match P.info? e with
  | some i=>some (n,i.size)
  | none=>none
 | _=>none
def QaF (P:Program)(t:TypeId):Option (List V):=
 match P.info? t with
 | some i=>match i.zero with
  | some z=>some (z.cells.toList.map Qgs)
  | none=>none
 | none=>none
def QgC (P:Program)(t:TypeId):Option Nat:=(P.info? t).map (·.size)
theorem Qqr {t:TypeId}{g:Bool}(h:Qgp P t=some g)(w:World):(isAgg t).run P w=.ok g w:=by
 unfold Qgp at h
 unfold isAgg
 split at h<;>simp_all [underlying]
theorem Qse {t:TypeId}{n:Nat}(h:QgC P t=some n)(w:World):(sizeOf t).run P w=.ok n w:=by
 unfold QgC at h
 cases hi:P.info? t with
 | none=>simp [hi]at h
 | some i=>simp [hi]at h;simp [sizeOf,typeInfo,hi,h]
def V.cells : V->List V
 | .agg cs=>cs
 | v=>[v]
theorem Rep.oneCell {φ:Nat->Option Blk}{I:Nat->Prop}{w:World}{x:Value}{v:V}(h:Rep φ I w x v)(hv:v.one=true):x.cells=#[x]/\x.oneCell'=true:=by
 cases h with
 | dat h=>cases h with
  | lit=>cases x<;>first | exact⟨rfl,rfl⟩|simp [V.one]at hv
  | _=>first | exact⟨rfl,rfl⟩|simp [V.one]at hv
 | _=>first | exact⟨rfl,rfl⟩|simp [V.one]at hv
theorem Rep.cells {φ:Nat->Option Blk}{I:Nat->Prop}{w:World}{x:Value}{v:V}(h:Rep φ I w x v)(hv:v.one=true\/∃cs,v=.agg cs):
  x.cells.size=v.cells.length/\∀(j:Nat) y u,x.cells[j]? = some y->v.cells[j]? = some u->Rep φ I w y u:=by
 rcases hv with hv | ⟨cs,rfl⟩
 ·have hc:=(h.oneCell hv).1
  have hvc:v.cells=[v]:=by cases v<;>first | rfl | simp [V.one]at hv
  rw [hc,hvc]
  refine⟨rfl,fun j y u hy hu=>?_⟩
  cases j with
  | zero=>simp at hy hu;subst hy;subst hu;exact h
  | succ j=>simp at hy
 obtain⟨xs,rfl,hs,hr⟩:=h.agg_inv
 exact⟨hs,hr⟩
end
end Go.Vm
namespace Go.Vm
open Go Go.RowKit
def ext (φ:Nat->Option Blk)(o:Nat)(B:Blk):Nat->Option Blk:=fun k=>if k=o then some B else φ k
theorem Q8 (φ:Nat->Option Blk)(o:Nat)(B:Blk):ext φ o B o=some B:=by simp [ext]
theorem QS {φ:Nat->Option Blk}{o k:Nat}(B:Blk)(h:k≠o):ext φ o B k=φ k:=by simp [ext,h]
theorem St.look_set_same (σ:St)(o:Nat)(ob:Ob):look (σ.set o ob).hp o=some ob:=Qv _ _ _
theorem St.look_set_other (σ:St){o k:Nat}(ob:Ob)(h:o≠k):look (σ.set o ob).hp k=look σ.hp k:=Qr _ _ h
theorem Ctx.slot (C:Ctx){d:Nat}(hn:Nat.ble (d+1) C.n=true):d<616:=by
 have:=QbV hn;have:=C.small;omega
section
variable {C:Ctx}{φ:Nat->Option Blk}{σ:St}{a:Act}{w:World}
theorem Qqp.set {φ0:Nat->Option Blk}{b:Nat}{ob ob':Ob}(h:Qqp φ0 φ σ.hp)(hb:look σ.hp b=some ob):Qqp φ0 φ (σ.set b ob').hp:=h.sub fun o ob2 ho=>by
 by_cases e:o=b
 ·subst e;exact⟨_,hb⟩
 rw [σ.look_set_other _ (Ne.symm e)]at ho;exact⟨_,ho⟩
theorem RR.none_of_look (h:RR C φ σ a w){o:Nat}(ho:look σ.hp o=none):φ o=none:=by
 cases hb:φ o with
 | none=>rfl
 | some B=>obtain⟨ob,h2⟩:=h.dom o B hb;rw [ho]at h2;cases h2
theorem QoX {b cap z k:Nat}(h:({ b:=b,cap:=cap,z:=z }:Blk).has k):k=b:=by
 rcases h with h | h
 ·exact h
 cases h
theorem RR.imm_alloc (h:RR C φ σ a w)(o cap z:Nat)(obj:Obj)(hn:φ o=none):
  ∀k,Imm C φ w k->Imm C (ext φ o ⟨w.heap.size,cap,z,[],0⟩) (w.alloc obj) k/\(w.alloc obj).heap[k]? = w.heap[k]? := by
 intro k ⟨h1,h2,h3⟩
 refine⟨⟨by simp;omega,h2,fun o' B hB=>?_⟩,Below.heap_alloc w obj k h1⟩
 by_cases ho:o'=o
 ·subst ho;rw [Q8]at hB;cases hB;intro hh;have:=QoX hh;omega
 rw [QS _ ho]at hB;exact h3 o' B hB
theorem RR.mono_ext (h:RR C φ σ a w){o:Nat}(B:Blk)(hn:φ o=none):∀o' B',φ o'=some B'->ext φ o B o'=some B':=by
 intro o' B' hB
 rw [QS _ (fun e=>by subst e;rw [hn]at hB;cases hB)];exact hB
theorem RR.alloc (h:RR C φ σ a w){o cap z:Nat}(ho:look σ.hp o=none)(hlt:o<616){ob:Ob}{obj:Obj}
  (hrep:QbN (ext φ o ⟨w.heap.size,cap,z,[],0⟩) (Imm C (ext φ o ⟨w.heap.size,cap,z,[],0⟩) (w.alloc obj)) (w.alloc obj) ⟨w.heap.size,cap,z,[],0⟩ ob):
  RR C (ext φ o ⟨w.heap.size,cap,z,[],0⟩) (σ.set o ob) a (w.alloc obj):=by
 have hn:=h.none_of_look ho
 have hI:=h.imm_alloc o cap z obj hn
 have hm:=h.mono_ext ⟨w.heap.size,cap,z,[],0⟩ hn
 refine⟨h.os,h.tape,h.output,by have:=h.size;simp;omega,fun k h1 h2=>?_,?_,?_,?_,?_,⟨?_,fun o' ob' B hge ho' hB=>by rw [QS _ (by omega)];exact h.stay.2 o' ob' B hge (by rwa [σ.look_set_other _ (by omega)]at ho') hB⟩,h.tmps,h.defers.mono hI,?_,?_⟩
 ·rw [Below.heap_alloc w obj k (Qg8 h1 h.size)];exact h.kept k h1 h2
 ·intro o1 o2 B1 B2 k h1 h2 b1 b2
  by_cases e1:o1=o<;>by_cases e2:o2=o
  ·rw [e1,e2]
  ·subst e1;rw [Q8]at h1;cases h1;rw [QS _ e2]at h2
   have:=(h.lt o2 B2 k h2 b2).1;have:=QoX b1;omega
  ·subst e2;rw [Q8]at h2;cases h2;rw [QS _ e1]at h1
   have:=(h.lt o1 B1 k h1 b1).1;have:=QoX b2;omega
  rw [QS _ e1]at h1;rw [QS _ e2]at h2;exact h.inj o1 o2 B1 B2 k h1 h2 b1 b2
 ·intro o' B hB
  by_cases e:o'=o
  ·subst e;exact⟨ob,σ.look_set_same _ _⟩
  rw [QS _ e]at hB;obtain⟨ob',h'⟩:=h.dom o' B hB;exact⟨ob',by rw [σ.look_set_other _ (Ne.symm e)];exact h'⟩
 ·intro o' B k hB hk
  by_cases e:o'=o
  ·subst e;rw [Q8]at hB;cases hB;rw [QoX hk];exact⟨by simp,fun hlt=>absurd h.size (by omega)⟩
  rw [QS _ e]at hB;have:=h.lt o' B k hB hk;exact⟨by simp;omega,this.2⟩
 ·intro o' B k hB hk hlt
  by_cases e:o'=o
  ·subst e;rw [Q8]at hB;cases hB;rw [QoX hk];exact h.size
  rw [QS _ e]at hB;exact h.new o' B k hB hk hlt
 ·intro o' B hge hB
  rw [QS _ (by omega)]at hB;exact h.stay.1 o' B hge hB
 ·intro t v hv
  obtain⟨x,hx,hr⟩:=h.frame t v hv
  exact⟨x,hx,hr.mono hm hI⟩
 intro o' ob' ho'
 by_cases e:o'=o
 ·subst e;rw [σ.look_set_same]at ho';cases ho';exact .inl ⟨_,Q8 _ _ _,hrep⟩
 rw [σ.look_set_other _ (Ne.symm e)]at ho'
 rcases h.heap o' ob' ho' with⟨B,hB,hr⟩|⟨h1,h2⟩
 ·exact .inl ⟨B,by rw [QS _ e];exact hB,hr.mono hm hI fun k hk=>Below.heap_alloc w obj _ (h.lt o' B k hB hk).1⟩
 exact .inr ⟨by rw [QS _ e];exact h1,h2⟩
theorem RR.change (h:RR C φ σ a w){o:Nat}{B:Blk}(hB:φ o=some B){B':Blk}(hb:B'.b=B.b/\B'.cap=B.cap/\B'.z=B.z/\B'.off=B.off)(hst:616<=o->B'=B){ob:Ob}{w':World}(ho:w'.os=w.os)(ht:w'.tape=w.tape)(hu:w'.output=w.output)
  (hs:w.heap.size<=w'.heap.size) (hk:∀k,k<w.heap.size->¬B.has k->w'.heap[k]? = w.heap[k]?) (hB':∀k,B'.has k->k<w'.heap.size/\(B.has k\/w.heap.size<=k))
  (hrep:QbN (ext φ o B') (Imm C (ext φ o B') w') w' B' ob):RR C (ext φ o B') (σ.set o ob) a w':=by
 have hI:∀k,Imm C φ w k->Imm C (ext φ o B') w' k/\w'.heap[k]? = w.heap[k]? := fun k hk'=>by
  refine⟨⟨Qg8 hk'.1 hs,hk'.2.1,fun o' B1 h1=>?_⟩,hk k hk'.1 (hk'.2.2 o B hB)⟩
  by_cases e:o'=o
  ·subst e;rw [Q8]at h1;cases h1
   intro hh
   rcases(hB' k hh).2 with h2 | h2
   ·exact hk'.2.2 o' B hB h2
   have:=hk'.1;omega
  rw [QS _ e]at h1;exact hk'.2.2 o' B1 h1
 have hrepV:∀{x:Value} {v:V},Rep φ (Imm C φ w) w x v->Rep (ext φ o B') (Imm C (ext φ o B') w') w' x v:=by
  intro x v hr
  induction hr with
  | dat d=>exact .dat (d.mono hI)
  | own0 p=>exact .own0 p
  | own p n B1 h1 hn=>
   by_cases e:p=o
   ·subst e;rw [hB]at h1;cases h1
    have:=Rep.own (φ:=ext φ p B') (I:=Imm C (ext φ p B') w') (w:=w') p n B' (Q8 _ _ _) (by rw [hb.2.1];exact hn)
    rwa [hb.1,hb.2.1,hb.2.2.2]at this
   exact .own p n B1 (by rw [QS _ e];exact h1) hn
  | loc p i d B1 h1=>
   by_cases e:p=o
   ·subst e;rw [hB]at h1;cases h1
    have:=Rep.loc (φ:=ext φ p B') (I:=Imm C (ext φ p B') w') (w:=w') p i d B' (Q8 _ _ _)
    rwa [hb.1,hb.2.2.1,hb.2.2.2]at this
   exact .loc p i d B1 (by rw [QS _ e];exact h1)
  | map p B1 h1=>
   by_cases e:p=o
   ·subst e;rw [hB]at h1;cases h1
    have:=Rep.map (φ:=ext φ p B') (I:=Imm C (ext φ p B') w') (w:=w') p B' (Q8 _ _ _)
    rwa [hb.1]at this
   exact .map p B1 (by rw [QS _ e];exact h1)
  | agg xs cs hs _ ih=>exact .agg xs cs hs ih
  | tup xs cs hs _ ih=>exact .tup xs cs hs ih
  | ifc t x v _ ih=>exact .ifc t x v ih
  | clo fn xs ys vs us h1 h2 _ _ ih1 ih2=>exact .clo fn xs ys vs us h1 h2 ih1 ih2
 have old:∀o' B1,o'≠o->φ o'=some B1->∀k,B1.has k->w'.heap[k]? = w.heap[k]? := fun o' B1 hne h1 k hk1=>
  hk k (h.lt o' B1 k h1 hk1).1 fun h2=>hne (h.inj o' o B1 B k h1 hB hk1 h2)
 refine⟨ho.trans h.os,ht.trans h.tape,hu.trans h.output,QbM h.size hs,fun k h1 h2=>?_,?_,?_,?_,?_,⟨?_,fun o' ob' B1 hge ho' h1=>by
  by_cases e:o'=o
  ·subst e;rw [Q8,hst hge];have:=h.stay.1 o' B hge hB;rw [h1]at this;exact this.symm
  rw [QS _ e];exact h.stay.2 o' ob' B1 hge (by rwa [σ.look_set_other _ (Ne.symm e)]at ho') h1⟩,h.tmps,h.defers.mono hI,?_,?_⟩
 ·refine(hk k (Qg8 h1 h.size) fun hh=>h2 ((h.lt o B k hB hh).2 h1)).trans (h.kept k h1 h2)
 ·intro o1 o2 B1 B2 k h1 h2 b1 b2
  by_cases e1:o1=o<;>by_cases e2:o2=o
  ·rw [e1,e2]
  ·subst e1;rw [Q8]at h1;cases h1;rw [QS _ e2]at h2
   rcases(hB' k b1).2 with h3 | h3
   ·exact h.inj o1 o2 B B2 k hB h2 h3 b2
   have:=(h.lt o2 B2 k h2 b2).1;omega
  ·subst e2;rw [Q8]at h2;cases h2;rw [QS _ e1]at h1
   rcases(hB' k b2).2 with h3 | h3
   ·exact h.inj o1 o2 B1 B k h1 hB b1 h3
   have:=(h.lt o1 B1 k h1 b1).1;omega
  rw [QS _ e1]at h1;rw [QS _ e2]at h2;exact h.inj o1 o2 B1 B2 k h1 h2 b1 b2
 ·intro o' B1 h1
  by_cases e:o'=o
  ·subst e;exact⟨ob,σ.look_set_same _ _⟩
  rw [QS _ e]at h1;obtain⟨ob',h'⟩:=h.dom o' B1 h1;exact⟨ob',by rw [σ.look_set_other _ (Ne.symm e)];exact h'⟩
 ·intro o' B1 k h1 hk1
  by_cases e:o'=o
  ·subst e;rw [Q8]at h1;cases h1
   refine⟨(hB' k hk1).1,fun hlt=>?_⟩
   rcases(hB' k hk1).2 with h3 | h3
   ·exact(h.lt o' B k hB h3).2 hlt
   exact absurd h.size (by omega)
  rw [QS _ e]at h1;have:=h.lt o' B1 k h1 hk1;exact⟨by omega,this.2⟩
 ·intro o' B1 k h1 hk1 hlt
  by_cases e:o'=o
  ·subst e;rw [Q8]at h1;cases h1
   rcases(hB' k hk1).2 with h3 | h3
   ·exact h.new o' B k hB h3 hlt
   have:=h.size;omega
  rw [QS _ e]at h1;exact h.new o' B1 k h1 hk1 hlt
 ·intro o' B1 hge h1
  by_cases e:o'=o
  ·subst e;rw [Q8]at h1;cases h1;rw [hst hge];exact h.stay.1 o' B hge hB
  rw [QS _ e]at h1;exact h.stay.1 o' B1 hge h1
 ·intro t v hv
  obtain⟨x,hx,hr⟩:=h.frame t v hv
  exact⟨x,hx,hrepV hr⟩
 intro o' ob' ho'
 by_cases e:o'=o
 ·subst e;rw [σ.look_set_same]at ho';cases ho';exact .inl ⟨B',Q8 _ _ _,hrep⟩
 rw [σ.look_set_other _ (Ne.symm e)]at ho'
 rcases h.heap o' ob' ho' with⟨B1,h1,hr⟩|⟨h1,h2⟩
 ·refine .inl ⟨B1,by rw [QS _ e];exact h1,?_⟩
  cases ob' with
  | var vs=>
   obtain⟨cs,E,a1,a2,a0,a3⟩:=hr
   exact⟨cs,E,(old o' B1 e h1 _ B1.self).trans a1,a2,a0,fun j x v hx hv=>hrepV (a3 j x v hx hv)⟩
  | lp l K vs q=>
   obtain⟨tmps,D,rfl,a1,a2,a3,a4⟩:=hr
   exact⟨tmps,D,rfl,a1,(old o' B1 e h1 _ B1.self).trans a2,a3,fun j x v hx hv=>hrepV (a4 j x v hx hv)⟩
  | arr z rs=>exact Qba.mono hI (old o' B1 e h1 _ B1.self) hr
  | map l=>exact QeV.mono hI (old o' B1 e h1 _ B1.self) hr
  | grp z l lk=>exact QeW.mono hI (old o' B1 e h1) hr
  | mapX bm clock L l=>exact Qgr.mono hI (old o' B1 e h1 _ B1.self) hr
  | itr bm since seen cur=>exact Qo1.mono (old o' B1 e h1 _ B1.self) hr
  | itr0=>obtain⟨s,c,h3⟩:=hr;exact⟨s,c,(old o' B1 e h1 _ B1.self).trans h3.1,h3.2⟩
  | tbl A z rs=>exact QfS.mono hI (old o' B1 e h1) hr
  | nst x v=>exact Qo2.mono (old o' B1 e h1) hr
  | scr D H=>exact Qo3.mono (old o' B1 e h1) hr
 exact .inr ⟨by rw [QS _ e];exact h1,h2⟩
theorem QvB {φ:Nat->Option Blk}{o:Nat}{B:Blk}(h:φ o=some B):ext φ o B=φ:=by
 funext k
 by_cases e:k=o
 ·subst e;rw [Q8,h]
 rw [QS _ e]
theorem RR.write (h:RR C φ σ a w){o:Nat}{B:Blk}(hB:φ o=some B){ob:Ob}{w':World}(ho:w'.os=w.os)(ht:w'.tape=w.tape)(hu:w'.output=w.output)
  (hs:w'.heap.size=w.heap.size) (hk:∀k,k≠B.b->w'.heap[k]? = w.heap[k]?) (hrep:QbN φ (Imm C φ w') w' B ob):RR C φ (σ.set o ob) a w':=by
 have:=h.change hB (B':=B) ⟨rfl,rfl,rfl,rfl⟩ (fun _=>rfl) (ob:=ob) (w':=w') ho ht hu (by omega) (fun k _ hne=>hk k fun e=>hne (.inl e)) (fun k hk=>⟨by rw [hs];exact(h.lt o B k hB hk).1,.inl hk⟩) (by rw [QvB hB];exact hrep)
 rwa [QvB hB]at this
theorem RR.block (h:RR C φ σ a w){o:Nat}{B:Blk}(hB:φ o=some B){ob:Ob}(ho:look σ.hp o=some ob):QbN φ (Imm C φ w) w B ob:=by
 rcases h.heap o ob ho with⟨B',hB',hr⟩|⟨hn,_⟩
 ·rw [hB]at hB';cases hB';exact hr
 rw [hn]at hB;cases hB
end
theorem Dat.const {I:Nat->Prop}{w:World}(x:Value):Dat I w x (Qgs x):=by
 cases x<;>first | exact .b _ | exact .i _ _ | exact .s _ | exact .lit _
def V.plain : V->Bool
 | .b _=>true
 | .i _ _=>true
 | .s _=>true
 | .lit _=>true
 | .J=>true
 | .sl _ _=>true
 | .sln _ _ _=>true
 | .e0=>true
 | .ro _=>true
 | _=>false
theorem Rep.plain {φ:Nat->Option Blk}{I:Nat->Prop}{w:World}{x:Value}{v:V}(h:Rep φ I w x v)(hv:v.plain=true):Dat I w x v:=by
 cases h with
 | dat h=>exact h
 | _=>cases hv
theorem Rep.aggPlain {φ:Nat->Option Blk}{I:Nat->Prop}{w:World}{xs:Array Value}{cs:List V}(hs:xs.size=cs.length)(hr:∀(j:Nat) x v,xs[j]? = some x->cs[j]? = some v->Rep φ I w x v)(hv:cs.all V.plain=true):Dat I w (.agg xs) (.agg cs):=by
 rw [Qad]at hv
 exact .agg xs cs hs fun j x v hx hv'=>(hr j x v hx hv').plain (hv v (Qaa hv'))
def V.dat : V->Bool
 | .own _ _=>false
 | .loc _ _ _=>false
 | .map _=>false
 | .clo _ _ _=>false
 | .agg cs=>cs.all V.plain
 | .tup _=>false
 | .ifc _ x=>x.dat
 | _=>true
theorem Rep.toDat {φ:Nat->Option Blk}{I:Nat->Prop}{w:World}{x:Value}{v:V}(h:Rep φ I w x v)(hv:v.dat=true):Dat I w x v:=by
 induction h with
 | dat h=>exact h
 | ifc t x v h ih=>exact .ifc t x v (ih (by simpa [V.dat] using hv))
 | agg xs cs hs hr _=>exact Rep.aggPlain hs hr hv
 | _=>simp [V.dat]at hv
section
variable {P:Program}{C:Ctx}{σ:St}{o:Oper}
theorem Stp.alloc {T d:Nat}{zs:List V}(ho:o.op=.alloc T)(hd:o.dst=some d)(hn:Nat.ble (d+1) C.n=true)(hz:QaF P T=some zs)(hf:look σ.hp d=none):
  Stp P C o σ ((σ.set d (.var zs)).put d (.loc d 0 0)):=by
 refine Stp.val fun φ a w hr=>?_
 unfold QaF at hz
 split at hz
 ·rename_i i hi
  split at hz
  ·rename_i z hzz
   cases hz
   refine⟨.pointer (some ⟨w.heap.size,0,none⟩),w.alloc (.cells z.cells T),ext φ d ⟨w.heap.size,1,0,[],0⟩,?_,?_⟩
   ·simp [execOp,ho,Instr.alloc,zeroValue,typeInfo,hi,hzz,newVar,newRow]
   have hnew:=(hr.alloc (cap:=1) (z:=0) hf (C.slot hn) (ob:=.var (z.cells.toList.map Qgs)) (obj:=.cells z.cells T)
    ⟨z.cells,T,heap_alloc_new w _,by simp,rfl,fun j x v hx hv=>by
     simp [hx]at hv;subst hv;exact .dat (Dat.const _)⟩)
   rw [hd]
   refine hnew.put (Qaj hn) ?_
   have:=Rep.loc (φ:=ext φ d ⟨w.heap.size,1,0,[],0⟩) (I:=Imm C (ext φ d ⟨w.heap.size,1,0,[],0⟩) (w.alloc (.cells z.cells T))) (w:=w.alloc (.cells z.cells T)) d 0 0 _ (Q8 _ _ _)
   simpa using this
  cases hz
 cases hz
theorem Stp.box {T d:Nat}{x:Operand}{v:V}(ho:o.op=.box T x)(hd:o.dst=some d)(hn:Nat.ble (d+1) C.n=true)(hx:σ.opd x=some v)(h1:v.one=true\/∃cs,v=.agg cs)
  (hf:look σ.hp d=none):Stp P C o σ ((σ.set d (.var v.cells)).put d (.loc d 0 0)):=by
 refine Stp.val fun φ a w hr=>?_
 have hv:=hr.opd hx
 obtain⟨hs,hc⟩:=hv.cells h1
 refine⟨.pointer (some ⟨w.heap.size,0,none⟩),w.alloc (.cells (a.eval x).cells T),ext φ d ⟨w.heap.size,1,0,[],0⟩,?_,?_⟩
 ·simp [execOp,ho,Instr.box,newVar,newRow]
 have hN:=hr.none_of_look hf
 have hnew:=(hr.alloc (cap:=1) (z:=0) hf (C.slot hn) (ob:=.var v.cells) (obj:=.cells (a.eval x).cells T)
  ⟨(a.eval x).cells,T,heap_alloc_new w _,hs,rfl,fun j x v hx hv=>(hc j x v hx hv).mono (hr.mono_ext _ hN) (hr.imm_alloc d 1 0 _ hN)⟩)
 rw [hd]
 refine hnew.put (Qaj hn) ?_
 have:=Rep.loc (φ:=ext φ d ⟨w.heap.size,1,0,[],0⟩) (I:=Imm C (ext φ d ⟨w.heap.size,1,0,[],0⟩) (w.alloc (.cells (a.eval x).cells T))) (w:=w.alloc (.cells (a.eval x).cells T)) d 0 0 _ (Q8 _ _ _)
 simpa using this
theorem QiH {T:Nat}{w:World}{p:Addr}{x:Value}(hg:Qgp P T=some false)(hc:w.cell? p=some x):(Instr.loadAt T (.pointer (some p))).run P w=.ok x w:=by
 simp [Instr.loadAt,Instr.sureAddr,loadVar,Qqr hg,hc]
theorem Qnm {T n:Nat}{w:World}{p:Addr}(c:Nat->Value)(hg:Qgp P T=some true)(hs:QgC P T=some n)(hc:∀j,j<n->w.cell? (p.add j)=some (c j)):
  (Instr.loadAt T (.pointer (some p))).run P w=.ok (.agg ((List.range n).map c).toArray) w:=by
 simp only [Instr.loadAt,Instr.sureAddr,loadVar,Sem.run_bind,Sem.run_pure,Result.andThen_ok,Qqr hg,if_true,Qse hs]
 rw [run_loadCells w p n c hc]
 simp
theorem Stp.load1L {T d b off:Nat}{x:Operand}{cs:List V}{v:V}(ho:o.op=.load T x)(hd:o.dst=some d)(hn:Nat.ble (d+1) C.n=true)(hx:σ.opd x=some (.loc b 0 off))
  (hb:look σ.hp b=some (.var cs)) (hg:Qgp P T=some false) (hv:cs[off]? = some v):Stp P C o σ (σ.put d v):=by
 refine Stp.same hd hn fun φ a w hr=>?_
 obtain⟨B,hB,he⟩:=(hr.opd hx).loc_inv
 obtain⟨xs,E,h1,h2,h0,h3⟩:=hr.block hB hb
 have hlt:off<xs.size:=by rw [h2];exact(QT.1 hv).1
 have hc:w.cell? ⟨B.b,B.off+(0*B.z+off),none⟩=some xs[off]:=by simp [World.cell?,h1,hlt,h0]
 refine⟨xs[off],?_,h3 off _ v (by simp [hlt]) hv⟩
 simp only [execOp,ho,he,Sem.run_bind,QiH hg hc,Result.andThen_ok,Sem.run_pure]
theorem Stp.loadAL {T d b off n:Nat}{x:Operand}{cs vs:List V}(ho:o.op=.load T x)(hd:o.dst=some d)(hn:Nat.ble (d+1) C.n=true)(hx:σ.opd x=some (.loc b 0 off))
  (hb:look σ.hp b=some (.var cs)) (hg:Qgp P T=some true) (hs:QgC P T=some n) (hle:Nat.ble (off+n) cs.length=true) (hv:(cs.drop off).take n=vs):Stp P C o σ (σ.put d (.agg vs)):=by
 refine Stp.same hd hn fun φ a w hr=>?_
 have hle:=QbV hle
 obtain⟨B,hB,he⟩:=(hr.opd hx).loc_inv
 obtain⟨xs,E,h1,h2,h0,h3⟩:=hr.block hB hb
 have hc:∀j,j<n->w.cell? ((⟨B.b,B.off+(0*B.z+off),none⟩:Addr).add j)=some (xs.getD (off+j) undef):=by
  intro j hj
  have:off+j<xs.size:=by omega
  simp [Addr.add_lit,World.cell?,h1,Array.getD,this,h0]
 refine⟨.agg ((List.range n).map fun j=>xs.getD (off+j) undef).toArray,by simp only [execOp,ho,he,Sem.run_bind,Qnm _ hg hs hc,Result.andThen_ok,Sem.run_pure],.agg _ _ ?_ ?_⟩
 ·subst hv;simp;omega
 intro j y u hy hu
 subst hv
 simp only [QiZ,Qak,Qas,QT,QuJ,QuI]at hy
 obtain⟨_,⟨hj,rfl⟩,rfl⟩:=hy
 have hlt:off+j<xs.size:=by omega
 refine h3 (off+j) _ u (by simp [Array.getD,hlt]) ?_
 rwa [Qbx,if_pos hj,QgA]at hu
theorem Qba.cell {I:Nat->Prop}{w:World}{B:Blk}{z:Nat}{rs:List (List V)}(h:Qba I w B z rs){i off:Nat}{r:List V}{v:V}(hi:rs[i]? = some r)(hv:r[off]? = some v):
  ∃y,w.cell? ⟨B.b,B.off+(i*B.z+off),none⟩=some y/\Dat I w y v:=by
 obtain⟨hz,_,_,xs,E,h1,h2,h3⟩:=h
 obtain⟨y,hy,hr⟩:=h3 i r hi off v hv
 exact⟨y,by simp [World.cell?,h1,hz,hy],hr⟩
theorem Stp.load1A {T d b i off z:Nat}{x:Operand}{rs:List (List V)}{r:List V}{v:V}(ho:o.op=.load T x)(hd:o.dst=some d)(hn:Nat.ble (d+1) C.n=true)(hx:σ.opd x=some (.loc b i off))
  (hb:look σ.hp b=some (.arr z rs)) (hg:Qgp P T=some false) (hi:rs[i]? = some r) (hv:r[off]? = some v):Stp P C o σ (σ.put d v):=by
 refine Stp.same hd hn fun φ a w hr=>?_
 obtain⟨B,hB,he⟩:=(hr.opd hx).loc_inv
 obtain⟨y,hc,hy⟩:=Qba.cell (hr.block hB hb) hi hv
 exact⟨y,by simp [execOp,ho,he,QiH hg hc],.dat hy⟩
theorem Stp.loadAA {T d b i off z n:Nat}{x:Operand}{rs:List (List V)}{r vs:List V}(ho:o.op=.load T x)(hd:o.dst=some d)(hn:Nat.ble (d+1) C.n=true)(hx:σ.opd x=some (.loc b i off))
  (hb:look σ.hp b=some (.arr z rs)) (hg:Qgp P T=some true) (hs:QgC P T=some n) (hi:rs[i]? = some r) (hle:Nat.ble (off+n) r.length=true) (hv:(r.drop off).take n=vs):
  Stp P C o σ (σ.put d (.agg vs)):=by
 refine Stp.same hd hn fun φ a w hr=>?_
 have hle:=QbV hle
 obtain⟨B,hB,he⟩:=(hr.opd hx).loc_inv
 have hA:=hr.block hB hb
 have key:∀j,j<n->∃y,w.cell? ⟨B.b,B.off+(i*B.z+off)+j,none⟩=some y/\∀v,r[off+j]? = some v->Dat (Imm C φ w) w y v:=by
  intro j hj
  have:off+j<r.length:=by omega
  obtain⟨y,hc,hy⟩:=Qba.cell hA hi (QG this)
  exact⟨y,by simpa [Qmd] using hc,fun v hv=>by rw [QG this]at hv;exact Option.some.inj hv▸hy⟩
 have hc:∀j,j<n->w.cell? ((⟨B.b,B.off+(i*B.z+off),none⟩:Addr).add j)=some ((w.cell? ⟨B.b,B.off+(i*B.z+off)+j,none⟩).getD undef):=by
  intro j hj
  obtain⟨y,h1,_⟩:=key j hj
  simp [Addr.add_lit,h1]
 refine⟨.agg ((List.range n).map fun j=>(w.cell? ⟨B.b,B.off+(i*B.z+off)+j,none⟩).getD undef).toArray,by simp only [execOp,ho,he,Sem.run_bind,Qnm _ hg hs hc,Result.andThen_ok,Sem.run_pure],.agg _ _ ?_ ?_⟩
 ·subst hv;simp;omega
 intro j y u hy hu
 subst hv
 simp only [QiZ,Qak,Qas,QT,QuJ,QuI]at hy
 obtain⟨_,⟨hj,rfl⟩,rfl⟩:=hy
 obtain⟨y,h1,h2⟩:=key j hj
 rw [h1]
 refine .dat (h2 u ?_)
 rw [Qbx,if_pos hj,QgA]at hu
 exact hu
theorem Stp.load1R {T d:Nat}{x:Operand}{v:V}{cs:List V}(ho:o.op=.load T x)(hd:o.dst=some d)(hn:Nat.ble (d+1) C.n=true)(hx:σ.opd x=some (.ro cs))
  (hg:Qgp P T=some false) (hv:cs[0]? = some v):Stp P C o σ (σ.put d v):=by
 refine Stp.same hd hn fun φ a w hr=>?_
 obtain⟨b,off,he,hI,_,c,hc,hd⟩:=(hr.opd hx).ro_inv
 have:=hc 0 ((QT.1 hv).1)
 exact⟨c 0,by simp only [execOp,ho,he,Sem.run_bind,QiH hg (by simpa using this),Result.andThen_ok,Sem.run_pure],.dat (hd 0 v hv)⟩
theorem Stp.loadAR {T d n:Nat}{x:Operand}{vs cs:List V}(ho:o.op=.load T x)(hd:o.dst=some d)(hn:Nat.ble (d+1) C.n=true)(hx:σ.opd x=some (.ro cs))
  (hg:Qgp P T=some true) (hs:QgC P T=some n) (hle:Nat.ble n cs.length=true) (hv:cs.take n=vs):Stp P C o σ (σ.put d (.agg vs)):=by
 refine Stp.same hd hn fun φ a w hr=>?_
 have hle:=QbV hle
 obtain⟨b,off,he,hI,_,c,hc,hd⟩:=(hr.opd hx).ro_inv
 have hc':∀j,j<n->w.cell? ((⟨b,off,none⟩:Addr).add j)=some (c j):=fun j hj=>by rw [Addr.add_lit];exact hc j (by omega)
 refine⟨.agg ((List.range n).map c).toArray,by simp only [execOp,ho,he,Sem.run_bind,Qnm _ hg hs hc',Result.andThen_ok,Sem.run_pure],.agg _ _ ?_ ?_⟩
 ·subst hv;simp;omega
 intro j y u hy hu
 subst hv
 simp only [QiZ,Qak,Qas,QT,QuJ,QuI]at hy
 obtain⟨_,⟨hj,rfl⟩,rfl⟩:=hy
 refine .dat (hd j u ?_)
 rw [Qbx,if_pos hj]at hu
 exact hu
theorem Qq6 {T n g off:Nat}{w:World}{x:Value}{cur:Array Value}{E:TypeId}(hs:QgC P T=some n)(hx:x.cells.size=n)(hg:w.heap[g]? = some (.cells cur E (0,0)))
  (hle:off+n<=cur.size) (h1:∀u∈x.cells.toList,u.oneCell'=true):
  (Instr.storeAt T (.pointer (some ⟨g,off,none⟩)) x).run P w=.ok () (w.setRow g (cur.toList.take off++x.cells.toList++cur.toList.drop (off+n)).toArray):=by
 have:=run_storeCells_at P g off E x.cells.toList 0 cur w hg (by simpa [hx] using hle) h1
 simp [Instr.storeAt,Instr.sureAddr,storeVar,Qse hs,hx,this]
def QcW (r:List V)(off:Nat)(vs:List V):List V:=r.take off++vs++r.drop (off+vs.length)
theorem Rep.cells_one {φ:Nat->Option Blk}{I:Nat->Prop}{w:World}{x:Value}{v:V}(h:Rep φ I w x v)(hv:v.one=true\/∃cs,v=.agg cs)(h1:v.cells.all V.one=true):
  ∀u∈x.cells.toList,u.oneCell'=true:=by
 intro u hu
 obtain⟨hs,hc⟩:=h.cells hv
 obtain⟨j,hj,rfl⟩:=List.getElem_of_mem hu
 have hj':j<v.cells.length:=by rw [<-hs];simpa using hj
 have hj2:j<x.cells.size:=by simpa using hj
 have h3:=hc j x.cells[j] v.cells[j] (QeA hj2) (QG hj')
 have h4:(v.cells[j]).one=true:=by
  rw [Qad]at h1;exact h1 _ (Qby _)
 simpa using (h3.oneCell h4).2
theorem Stp.storeL {T b off n:Nat}{x y:Operand}{cs cs':List V}{v:V}(ho:o.op=.store T x y)(hd:o.dst=none)(hx:σ.opd x=some (.loc b 0 off))
  (hb:look σ.hp b=some (.var cs)) (hy:σ.opd y=some v) (h1:v.one=true\/∃cs,v=.agg cs) (hs:QgC P T=some n) (hl:v.cells.length=n) (hall:v.cells.all V.one=true)
  (hle:Nat.ble (off+n) cs.length=true) (he:QcW cs off v.cells=cs'):Stp P C o σ (σ.set b (.var cs')):=by
 refine Stp.skp fun φ a w hr=>?_
 subst he
 have hle:=QbV hle
 obtain⟨B,hB,he⟩:=(hr.opd hx).loc_inv
 obtain⟨xs,E,e1,e2,e0,e3⟩:=hr.block hB hb
 rw [e0]at he
 have hv:=hr.opd hy
 obtain⟨hcs,hc⟩:=hv.cells h1
 have hsz:(a.eval y).cells.size=n:=by rw [hcs,hl]
 have hrun:=Qq6 (off:=off) hs hsz e1 (by omega) (hv.cells_one h1 hall)
 refine⟨w.setRow B.b (xs.toList.take off++(a.eval y).cells.toList++xs.toList.drop (off+n)).toArray,φ,?_,?_⟩
 ·simp only [execOp,ho,he,Sem.run_bind,Qme,Qlr,hrun,Result.andThen_ok,Sem.run_pure]
 rw [hd]
 have hl1:(xs.toList.take off++(a.eval y).cells.toList++xs.toList.drop (off+n)).length=xs.size:=by simp;omega
 refine hr.write hB rfl rfl rfl (by simp) (fun k hk=>setRow_other w B.b k _ hk) ⟨_,E,setRow_heap w B.b xs _ E _ e1,?_,e0,?_⟩
 ·simp only [List.size_toArray,hl1];simp [QcW,hl];omega
 have hI:∀k,Imm C φ w k->Imm C φ (w.setRow B.b (xs.toList.take off++(a.eval y).cells.toList++xs.toList.drop (off+n)).toArray) k/\
   (w.setRow B.b (xs.toList.take off++(a.eval y).cells.toList++xs.toList.drop (off+n)).toArray).heap[k]? = w.heap[k]?:=
  fun k hk=>⟨⟨by simpa using hk.1,hk.2⟩,setRow_other w B.b k _ fun e=>hk.2.2 b B hB (.inl e)⟩
 intro j y' u hy' hu
 refine Rep.mono (fun _ _ h=>h) hI ?_
 simp only [QiZ,QcW]at hy' hu
 by_cases hj:j<off
 ·rw [Qgb,Qbf (by simp;omega),Qbx,if_pos hj]at hy' hu
  exact e3 j y' u (by simpa using hy') hu
 by_cases hj2:j<off+n
 ·rw [Qbf (by simp;omega),Qcf (by simp;omega)]at hy' hu
  have el:off-min off cs.length=0:=by omega
  have el2:off-min off xs.size=0:=by omega
  refine hc (j-off) y' u ?_ ?_
  ·rw [<-hy'];simp;congr 1;omega
  rw [<-hu];simp;congr 1;omega
 rw [Qcf (by simp;omega)]at hy' hu
 refine e3 j y' u ?_ ?_
 ·rw [<-hy'];simp;congr 1;omega
 rw [<-hu];simp;congr 1;omega
end
end Go.Vm
namespace Go.Vm
open Go Go.RowKit
section
variable {P:Program}{C:Ctx}{σ:St}{o:Oper}
theorem QAX {i i' z j off n:Nat}(h:i'≠i)(hj:j<z)(hn:off+n<=z):i'*z+j<i*z+off\/i*z+off+n<=i'*z+j:=by
 rcases Nat.lt_or_gt_of_ne h with h | h
 ·left
  have:(i'+1)*z<=i*z:=Qct z h
  rw [QcI]at this;omega
 right
 have:(i+1)*z<=i'*z:=Qct z h
 rw [QcI]at this;omega
theorem Stp.storeAV {T b i off n z:Nat}{x y:Operand}{rs rs':List (List V)}{r:List V}{v:V}(ho:o.op=.store T x y)(hd:o.dst=none)(hx:σ.opd x=some (.loc b i off))
  (hb:look σ.hp b=some (.arr z rs)) (hi:rs[i]? = some r) (hy:∀φ a w,RR C φ σ a w->Rep φ (Imm C φ w) w (a.eval y) v) (h1:v.one=true\/∃cs,v=.agg cs) (hs:QgC P T=some n) (hl:v.cells.length=n)
  (hall:v.cells.all V.one=true) (hdat:v.cells.all V.dat=true) (hle:Nat.ble (off+n) z=true) (he:rs.set i (QcW r off v.cells)=rs'):Stp P C o σ (σ.set b (.arr z rs')):=by
 refine Stp.skp fun φ a w hr=>?_
 subst he
 have hle:=QbV hle
 obtain⟨B,hB,he⟩:=(hr.opd hx).loc_inv
 obtain⟨hz,hrl,hok,xs,E,e1,e2,e3⟩:=hr.block hB hb
 subst hz
 have hv:=hy φ a w hr
 obtain⟨hcs,hc⟩:=hv.cells h1
 have hsz:(a.eval y).cells.size=n:=by rw [hcs,hl]
 have hilt:i<rs.length:=(QT.1 hi).1
 have hrlen:r.length=B.z:=(hok r (Qaa hi)).1
 have hbig:B.off+(i*B.z+B.z)<=xs.size:=by
  refine QbM ?_ e2
  have:(i+1)*B.z<=B.cap*B.z:=Qct _ (by omega)
  rw [QcI]at this;omega
 have hrun:=Qq6 (off:=B.off+(i*B.z+off)) hs hsz e1 (by omega) (hv.cells_one h1 hall)
 refine⟨w.setRow B.b (xs.toList.take (B.off+(i*B.z+off))++(a.eval y).cells.toList++xs.toList.drop (B.off+(i*B.z+off)+n)).toArray,φ,?_,?_⟩
 ·simp only [execOp,ho,he,Sem.run_bind,hrun,Result.andThen_ok,Sem.run_pure]
 rw [hd]
 have hl1:(xs.toList.take (B.off+(i*B.z+off))++(a.eval y).cells.toList++xs.toList.drop (B.off+(i*B.z+off)+n)).length=xs.size:=by simp;omega
 refine hr.write hB rfl rfl rfl (by simp) (fun k hk=>setRow_other w B.b k _ hk) ⟨rfl,by simpa using hrl,?_,_,E,setRow_heap w B.b xs _ E _ e1,?_,?_⟩
 ·intro r' hr'
  rcases List.mem_or_eq_of_mem_set hr' with h | h
  ·exact hok r' h
  subst h
  refine⟨by simp [QcW,hl];omega,fun u hu=>?_⟩
  simp only [QcW,QcH]at hu
  rcases hu with(hu | hu) | hu
  ·exact(hok r (Qaa hi)).2 u (QeQ hu)
  ·rw [Qad]at hall;exact hall u hu
  exact(hok r (Qaa hi)).2 u (QoI hu)
 ·simp only [List.size_toArray,hl1];exact e2
 have hI:∀k,Imm C φ w k->Imm C φ (w.setRow B.b (xs.toList.take (B.off+(i*B.z+off))++(a.eval y).cells.toList++xs.toList.drop (B.off+(i*B.z+off)+n)).toArray) k/\
   (w.setRow B.b (xs.toList.take (B.off+(i*B.z+off))++(a.eval y).cells.toList++xs.toList.drop (B.off+(i*B.z+off)+n)).toArray).heap[k]? = w.heap[k]?:=
  fun k hk=>⟨⟨by simpa using hk.1,hk.2⟩,setRow_other w B.b k _ fun e=>hk.2.2 b B hB (.inl e)⟩
 have old:∀(i':Nat) r',rs[i']? = some r'->∀(j:Nat) u,r'[j]? = some u->(i'*B.z+j<i*B.z+off\/i*B.z+off+n<=i'*B.z+j)->
   ∃y',(xs.toList.take (B.off+(i*B.z+off))++(a.eval y).cells.toList++xs.toList.drop (B.off+(i*B.z+off)+n)).toArray[B.off+(i'*B.z+j)]? = some y'/\
    Dat (Imm C φ (w.setRow B.b (xs.toList.take (B.off+(i*B.z+off))++(a.eval y).cells.toList++xs.toList.drop (B.off+(i*B.z+off)+n)).toArray))
     (w.setRow B.b (xs.toList.take (B.off+(i*B.z+off))++(a.eval y).cells.toList++xs.toList.drop (B.off+(i*B.z+off)+n)).toArray) y' u:=by
  intro i' r' hi' j u hu hout
  obtain⟨y',h1',h2'⟩:=e3 i' r' hi' j u hu
  refine⟨y',?_,h2'.mono hI⟩
  rw [QiZ]
  rcases hout with hout | hout
  ·rw [Qgb,Qbf (by simp;omega),Qbx,if_pos (by omega)];simpa using h1'
  have hlt:B.off+(i'*B.z+j)<xs.size:=(Qhr.1 h1').1
  rw [Qcf (by simp;omega),QgA]
  rw [<-h1'];simp;congr 1;omega
 intro i' r' hi' j u hu
 by_cases e:i'=i
 ·subst e
  rw [List.getElem?_set_self (by omega)]at hi'
  cases hi'
  by_cases hj:j<off
  ·have hu':r[j]? = some u:=by
    rw [QcW,Qgb,Qbf (by simp;omega),Qbx,if_pos hj]at hu;exact hu
   exact old i' r hi j u hu' (.inl (by omega))
  by_cases hj2:j<off+n
  ·have hu':v.cells[j-off]? = some u:=by
    rw [QcW,Qbf (by simp;omega),Qcf (by simp;omega)]at hu
    rw [<-hu];congr 1;simp;omega
   have hlt:j-off<(a.eval y).cells.size:=by omega
   have hD:=(hc (j-off) _ u (QeA hlt) hu').toDat (by
    rw [Qad]at hdat;exact hdat u (Qaa hu'))
   refine⟨(a.eval y).cells[j-off],?_,hD.mono hI⟩
   rw [QiZ,Qbf (by simp;omega),Qcf (by simp;omega)]
   have:B.off+(i'*B.z+j)-(xs.toList.take (B.off+(i'*B.z+off))).length=j-off:=by simp;omega
   rw [this];simp [hlt]
  have hu':r[j]? = some u:=by
   rw [QcW,Qcf (by simp;omega),QgA]at hu
   rw [<-hu];congr 1;simp;omega
  exact old i' r hi j u hu' (.inr (by omega))
 have hi'':rs[i']? = some r':=by rwa [List.getElem?_set_ne (Ne.symm e)]at hi'
 have hjz:j<B.z:=by
  have:=(QT.1 hu).1
  rwa [(hok r' (Qaa hi'')).1]at this
 exact old i' r' hi'' j u hu (QAX e hjz hle)
theorem Stp.storeA {T b i off n z:Nat}{x y:Operand}{rs rs':List (List V)}{r:List V}{v:V}(ho:o.op=.store T x y)(hd:o.dst=none)(hx:σ.opd x=some (.loc b i off))
  (hb:look σ.hp b=some (.arr z rs)) (hi:rs[i]? = some r) (hy:σ.opd y=some v) (h1:v.one=true\/∃cs,v=.agg cs) (hs:QgC P T=some n) (hl:v.cells.length=n)
  (hall:v.cells.all V.one=true) (hdat:v.cells.all V.dat=true) (hle:Nat.ble (off+n) z=true) (he:rs.set i (QcW r off v.cells)=rs'):Stp P C o σ (σ.set b (.arr z rs')):=
 Stp.storeAV ho hd hx hb hi (fun φ a w hr=>hr.opd hy) h1 hs hl hall hdat hle he
theorem Qq7 {T f off:Nat}{w:World}{p:Addr}(hf:QjK P T f=some off):(Instr.fieldAt T (.pointer (some p)) f).run P w=.ok (.pointer (some (p.add off))) w:=by
 unfold QjK at hf
 split at hf
 ·rename_i fs hfs
  split at hf
  ·rename_i fl hfl
   split at hf
   ·rename_i i hi
    split at hf
    ·cases hf
    rename_i hne
    cases hf
    simp [Instr.fieldAt,run_underlying hfs,hfl,Instr.sureAddr,fieldPlace,sizeOf,typeInfo,hi,hne]
   cases hf
  cases hf
 cases hf
theorem Stp.fieldL {T f d b i k off:Nat}{x:Operand}(ho:o.op=.fieldAddr T x f)(hd:o.dst=some d)(hn:Nat.ble (d+1) C.n=true)(hx:σ.opd x=some (.loc b i k))
  (hf:QjK P T f=some off):Stp P C o σ (σ.put d (.loc b i (k+off))):=by
 refine Stp.same hd hn fun φ a w hr=>?_
 obtain⟨B,hB,he⟩:=(hr.opd hx).loc_inv
 refine⟨.pointer (some ⟨B.b,B.off+(i*B.z+(k+off)),none⟩),?_,.loc b i (k+off) B hB⟩
 simp only [execOp,ho,he,Sem.run_bind,Qq7 hf,Result.andThen_ok,Sem.run_pure,Addr.add_lit,Qmd]
theorem Dat.ro_drop {I:Nat->Prop}{w:World}{b off:Nat}{cs:List V}{c:Nat->Value}(k:Nat)(hI:I b)(h1:∀v∈cs,v.one=true)(hc:∀j,j<cs.length->w.cell? ⟨b,off+j,none⟩=some (c j))
  (hd:∀(j:Nat) v,cs[j]? = some v->Dat I w (c j) v):Dat I w (.pointer (some ⟨b,off+k,none⟩)) (.ro (cs.drop k)):=by
 refine .ro b (off+k) _ (fun j=>c (k+j)) hI (fun v hv=>h1 v (QoI hv)) (fun j hj=>?_) fun j v hv=>hd (k+j) v (by rwa [QgA]at hv)
 have:=hc (k+j) (by simp at hj;omega)
 rwa [<-Qmd]at this
theorem Stp.fieldR {T f d off:Nat}{x:Operand}{cs cs':List V}(ho:o.op=.fieldAddr T x f)(hd:o.dst=some d)(hn:Nat.ble (d+1) C.n=true)(hx:σ.opd x=some (.ro cs))
  (hf:QjK P T f=some off) (he:cs.drop off=cs'):Stp P C o σ (σ.put d (.ro cs')):=by
 refine Stp.same hd hn fun φ a w hr=>?_
 subst he
 obtain⟨b,k,he,hI,h1,c,hc,hD⟩:=(hr.opd hx).ro_inv
 refine⟨.pointer (some ⟨b,k+off,none⟩),?_,.dat (Dat.ro_drop off hI h1 hc hD)⟩
 simp only [execOp,ho,he,Sem.run_bind,Qq7 hf,Result.andThen_ok,Sem.run_pure,Addr.add_lit]
theorem Qcu {T e z by_:Nat}(h:Qav P T=some (e,z,by_)):P.underlying T=some (.slice e)/\∃i,P.info? e=some i/\i.size=z/\i.bytes=by_:=by
 unfold Qav at h
 split at h
 ·rename_i e' he
  split at h
  ·rename_i i hi;cases h;exact⟨he,i,hi,rfl,rfl⟩
  cases h
 cases h
theorem Qx6 {T n z:Nat}(h:Qqq P T=some (n,z)):∃e,P.underlying T=some (.array n e)/\∃i,P.info? e=some i/\i.size=z:=by
 unfold Qqq at h
 split at h
 ·rename_i n' e' he
  split at h
  ·rename_i i hi;cases h;exact⟨e',he,i,hi,rfl⟩
  cases h
 cases h
theorem Qmf {T e z by_ len cap:Nat}{w:World}{p:Addr}{k:IntKind}{j:Int}(hT:Qav P T=some (e,z,by_))(h0:0<=j)(h1:j<len):
  (Instr.indexAt T (.slice (some p) len cap) (.int k j)).run P w=.ok (.pointer (some (p.add (j.toNat*z)))) w:=by
 obtain⟨hu,i,hi,rfl,rfl⟩:=Qcu hT
 simp [Instr.indexAt,asIntOf,run_underlying hu,sizeOf,typeInfo,hi,h0,h1]
theorem Stp.idxS {T d e z by_:Nat}{x y:Operand}{rows:List (List V)}{r:List V}{k:IntKind}{j:Int}(ho:o.op=.indexAddr T x y)(hd:o.dst=some d)(hn:Nat.ble (d+1) C.n=true)
  (hx:σ.opd x=some (.sl z rows)) (hy:σ.opd y=some (.i k j)) (hT:Qav P T=some (e,z,by_)) (h0:0<=j) (hr':rows[j.toNat]? = some r):Stp P C o σ (σ.put d (.ro r)):=by
 refine Stp.same hd hn fun φ a w hr=>?_
 have hlt:j.toNat<rows.length:=(QT.1 hr').1
 rcases(hr.opd hx).sl_inv with⟨_,_,_,rfl⟩|⟨b,off,cap,he,hI,hcap,hok,c,hc,hD⟩
 ·simp at hr'
 have hrow:=hok r (Qaa hr')
 have hbig:j.toNat*z+z<=rows.length*z:=by
  have:(j.toNat+1)*z<=rows.length*z:=Qct _ hlt
  rw [QcI]at this;omega
 refine⟨.pointer (some ⟨b,off+j.toNat*z,none⟩),?_,.dat (.ro b _ r (fun m=>c (j.toNat*z+m)) hI hrow.2 (fun m hm=>?_) (fun m v hv=>hD _ r hr' m v hv))⟩
 ·simp only [execOp,ho,he,(hr.opd hy).i_inv,Sem.run_bind,Qmf hT h0 (show j<(rows.length:Int) by omega),Result.andThen_ok,Sem.run_pure,Addr.add_lit]
 have:=hc (j.toNat*z+m) (by rw [hrow.1]at hm;omega)
 rwa [<-Qmd]at this
theorem Stp.idxO {T d e z by_ b n:Nat}{x y:Operand}{rs:List (List V)}{k:IntKind}{j:Int}(ho:o.op=.indexAddr T x y)(hd:o.dst=some d)(hn:Nat.ble (d+1) C.n=true)
  (hx:σ.opd x=some (.own b n)) (hy:σ.opd y=some (.i k j)) (hT:Qav P T=some (e,z,by_)) (hb:look σ.hp b=some (.arr z rs)) (h0:0<=j) (h1:j<n):
  Stp P C o σ (σ.put d (.loc b j.toNat 0)):=by
 refine Stp.same hd hn fun φ a w hr=>?_
 rcases(hr.opd hx).own_inv with⟨_,rfl⟩|⟨B,hB,hcap,he⟩
 ·omega
 have hz:B.z=z:=(hr.block hB hb).1
 refine⟨.pointer (some ⟨B.b,B.off+(j.toNat*B.z+0),none⟩),?_,.loc b j.toNat 0 B hB⟩
 simp only [execOp,ho,he,(hr.opd hy).i_inv,Sem.run_bind,Qmf hT h0 h1,Result.andThen_ok,Sem.run_pure,Addr.add_lit,hz,Qlr,Qlq]
theorem QtD {T z n:Nat}{w:World}{p:Addr}{k:IntKind}{j:Int}(hT:Qqq P T=some (n,z))(h0:0<=j)(h1:j<n):
  (Instr.indexAt T (.pointer (some p)) (.int k j)).run P w=.ok (.pointer (some (p.add (j.toNat*z)))) w:=by
 obtain⟨e,hu,i,hi,rfl⟩:=Qx6 hT
 simp [Instr.indexAt,asIntOf,run_underlying hu,sizeOf,typeInfo,hi,h0,h1,Instr.sureAddr]
theorem Stp.idxAL {T d z n b i m off:Nat}{x y:Operand}{k:IntKind}{j:Int}(ho:o.op=.indexAddr T x y)(hd:o.dst=some d)(hn:Nat.ble (d+1) C.n=true)
  (hx:σ.opd x=some (.loc b i m)) (hy:σ.opd y=some (.i k j)) (hT:Qqq P T=some (n,z)) (h0:0<=j) (h1:j<n) (hoff:m+j.toNat*z=off):Stp P C o σ (σ.put d (.loc b i off)):=by
 refine Stp.same hd hn fun φ a w hr=>?_
 subst hoff
 obtain⟨B,hB,he⟩:=(hr.opd hx).loc_inv
 refine⟨.pointer (some ⟨B.b,B.off+(i*B.z+(m+j.toNat*z)),none⟩),?_,.loc b i _ B hB⟩
 simp only [execOp,ho,he,(hr.opd hy).i_inv,Sem.run_bind,QtD hT h0 h1,Result.andThen_ok,Sem.run_pure,Addr.add_lit,Qmd]
theorem Stp.idxAR {T d z n:Nat}{x y:Operand}{k:IntKind}{j:Int}{cs cs':List V}(ho:o.op=.indexAddr T x y)(hd:o.dst=some d)(hn:Nat.ble (d+1) C.n=true)
  (hx:σ.opd x=some (.ro cs)) (hy:σ.opd y=some (.i k j)) (hT:Qqq P T=some (n,z)) (h0:0<=j) (h1:j<n) (he:cs.drop (j.toNat*z)=cs'):Stp P C o σ (σ.put d (.ro cs')):=by
 refine Stp.same hd hn fun φ a w hr=>?_
 subst he
 obtain⟨b,m,he,hI,h1',c,hc,hD⟩:=(hr.opd hx).ro_inv
 refine⟨.pointer (some ⟨b,m+j.toNat*z,none⟩),?_,.dat (Dat.ro_drop _ hI h1' hc hD)⟩
 simp only [execOp,ho,he,(hr.opd hy).i_inv,Sem.run_bind,QtD hT h0 h1,Result.andThen_ok,Sem.run_pure,Addr.add_lit]
def QtE (P:Program)(t:TypeId):Bool:=match P.underlying t with | some .string=>true | _=>false
theorem QvC {T:Nat}(h:QtE P T=true):P.underlying T=some .string:=by
 unfold QtE at h
 split at h
 ·assumption
 cases h
theorem Stp.idxStr {T d:Nat}{x y:Operand}{k:IntKind}{j:Int}{s:ByteArray}{c:UInt8}(ho:o.op=.index T x y)(hd:o.dst=some d)(hn:Nat.ble (d+1) C.n=true)
  (hx:σ.opd x=some (.s s)) (hy:σ.opd y=some (.i k j)) (hT:QtE P T=true) (h0:0<=j) (hc:s[j.toNat]? = some c):Stp P C o σ (σ.put d (.i .u8 c.toNat)):=by
 refine Stp.same hd hn fun φ a w hr=>?_
 refine⟨.int .u8 c.toNat,?_,.dat (.i _ _)⟩
 simp [execOp,ho,(hr.opd hx).s_inv,(hr.opd hy).i_inv,Instr.index,asIntOf,run_underlying (QvC hT),h0,hc]
theorem Stp.lenS {T d e z z' by_:Nat}{x:Operand}{rows:List (List V)}(ho:o.op=.call { callee:=.builtin .len,args:=#[x],argTypes:=#[T] })(hd:o.dst=some d)(hn:Nat.ble (d+1) C.n=true)
  (hx:σ.opd x=some (.sl z rows)) (hT:Qav P T=some (e,z',by_)):Stp P C o σ (σ.put d (.i .i64 rows.length)):=by
 refine Stp.same hd hn fun φ a w hr=>?_
 obtain⟨hu,_⟩:=Qcu hT
 refine⟨.int .i64 rows.length,?_,.dat (.i _ _)⟩
 rcases(hr.opd hx).sl_inv with⟨p,cap,he,rfl⟩|⟨b,off,cap,he,_⟩ <;>
  simp [execOp,ho,he,resolve,invoke,builtin,Builtin.len_,run_underlying hu,goInt]
theorem Stp.lenO {T d e z' by_ b n:Nat}{x:Operand}(ho:o.op=.call { callee:=.builtin .len,args:=#[x],argTypes:=#[T] })(hd:o.dst=some d)(hn:Nat.ble (d+1) C.n=true)
  (hx:σ.opd x=some (.own b n)) (hT:Qav P T=some (e,z',by_)):Stp P C o σ (σ.put d (.i .i64 n)):=by
 refine Stp.same hd hn fun φ a w hr=>?_
 obtain⟨hu,_⟩:=Qcu hT
 refine⟨.int .i64 n,?_,.dat (.i _ _)⟩
 rcases(hr.opd hx).own_inv with⟨he,rfl⟩|⟨B,_,_,he⟩ <;>
  simp [execOp,ho,he,resolve,invoke,builtin,Builtin.len_,run_underlying hu,goInt]
theorem Stp.lenN {T d e z' by_:Nat}{x:Operand}(ho:o.op=.call { callee:=.builtin .len,args:=#[x],argTypes:=#[T] })(hd:o.dst=some d)(hn:Nat.ble (d+1) C.n=true)
  (hx:σ.opd x=some (.lit (.slice none 0 0))) (hT:Qav P T=some (e,z',by_)):Stp P C o σ (σ.put d (.i .i64 0)):=by
 refine Stp.same hd hn fun φ a w hr=>?_
 obtain⟨hu,_⟩:=Qcu hT
 refine⟨.int .i64 0,?_,.dat (.i _ _)⟩
 simp [execOp,ho,(hr.opd hx).lit_inv,resolve,invoke,builtin,Builtin.len_,run_underlying hu,goInt]
theorem Stp.lenStr {T d:Nat}{x:Operand}{s:ByteArray}(ho:o.op=.call { callee:=.builtin .len,args:=#[x],argTypes:=#[T] })(hd:o.dst=some d)(hn:Nat.ble (d+1) C.n=true)
  (hx:σ.opd x=some (.s s)) (hT:QtE P T=true):Stp P C o σ (σ.put d (.i .i64 s.size)):=by
 refine Stp.same hd hn fun φ a w hr=>?_
 refine⟨.int .i64 s.size,?_,.dat (.i _ _)⟩
 simp [execOp,ho,(hr.opd hx).s_inv,resolve,invoke,builtin,Builtin.len_,run_underlying (QvC hT),goInt]
end
end Go.Vm
namespace Go.Vm
open Go Go.RowKit
section
variable {P:Program}{C:Ctx}{σ:St}{o:Oper}
theorem QhP {T:Nat}{zs:List V}(h:QaF P T=some zs):∃i z,P.info? T=some i/\i.zero=some z/\z.cells.toList.map Qgs=zs:=by
 unfold QaF at h
 split at h
 ·rename_i i hi
  split at h
  ·rename_i z hz;cases h;exact⟨i,z,hi,hz,rfl⟩
  cases h
 cases h
theorem Qyr (z:Array Value)(n k:Nat)(h:k<n):(madeCells z n)[k]? = some (z[k % z.size]!):=by
 simp [madeCells,h]
theorem Stp.make {T d e z by_:Nat}{x y:Operand}{zs:List V}{k k':IntKind}{l c:Int}(ho:o.op=.makeSlice T x y)(hd:o.dst=some d)(hn:Nat.ble (d+1) C.n=true)
  (hx:σ.opd x=some (.i k l)) (hy:σ.opd y=some (.i k' c)) (hT:Qav P T=some (e,z,by_)) (hz:QaF P e=some zs) (hzl:zs.length=z) (hz0:z≠0) (hone:zs.all V.one=true)
  (h0:0<=l) (hlc:l<=c) (hby:by_<=32768) (hc:c<=4294967296) (hf:look σ.hp d=none):
  Stp P C o σ ((σ.set d (.arr z (List.replicate l.toNat zs))).put d (.own d l.toNat)):=by
 refine Stp.val fun φ a w hr=>?_
 obtain⟨hu,i,hi,hiz,hib⟩:=Qcu hT
 obtain⟨i',zv,hi',hz',hmap⟩:=QhP hz
 rw [hi]at hi';cases hi'
 have hzs:zv.cells.size=z:=by rw [<-hzl,<-hmap];simp
 have hbytes:(i.bytes:Int)*c<=281474976710656:=by
  rw [hib]
  have h1:(by_:Int)*c<=32768*c:=Int.mul_le_mul_of_nonneg_right (by omega) (by omega)
  omega
 have hrun:=run_make (P:=P) w T e i zv hu hi hz' k k' l c h0 hlc hbytes (by omega)
 rw [hiz]at hrun
 have hN:=hr.none_of_look hf
 refine⟨.slice (some ⟨w.heap.size,0,none⟩) l.toNat c.toNat,w.alloc (.cells (madeCells zv.cells (c.toNat*z)) e),ext φ d ⟨w.heap.size,c.toNat,z,[],0⟩,?_,?_⟩
 ·simp only [execOp,ho,(hr.opd hx).i_inv,(hr.opd hy).i_inv,Sem.run_bind,hrun,Result.andThen_ok,Sem.run_pure]
 have hle:l.toNat<=c.toNat:=by omega
 have hnew:=hr.alloc (cap:=c.toNat) (z:=z) hf (C.slot hn) (ob:=.arr z (List.replicate l.toNat zs)) (obj:=.cells (madeCells zv.cells (c.toNat*z)) e)
  (Qba.mk0 rfl rfl (by simpa using hle) (fun r hr'=>by
   obtain⟨_,rfl⟩:=List.mem_replicate.1 hr'
   exact⟨hzl,fun v hv=>by rw [Qad]at hone;exact hone v hv⟩) _ e (heap_alloc_new w _) (size_madeCells _ _) fun m r hm j v hv=>by
   obtain⟨hm1,rfl⟩:m<l.toNat/\zs=r:=by
    have:=QT.1 hm
    obtain⟨h1,h2⟩:=this
    simp at h1 h2
    exact⟨by omega,h2⟩
   have hj:j<z:=by rw [<-hzl];exact(QT.1 hv).1
   have hlt:m*z+j<c.toNat*z:=by
    have:(m+1)*z<=c.toNat*z:=Qct _ (by omega)
    rw [QcI]at this;omega
   refine⟨_,Qyr _ _ _ hlt,?_⟩
   have hmod:(m*z+j) % zv.cells.size=j:=by rw [hzs,Nat.mul_comm,Nat.mul_add_mod,Nat.mod_eq_of_lt hj]
   rw [hmod]
   have hjs:j<zv.cells.size:=by omega
   have:v=Qgs zv.cells[j]:=by
    rw [<-hmap]at hv
    simp [hjs]at hv
    exact hv.symm
   subst this
   rw [getElem!_pos zv.cells j hjs]
   exact Dat.const _)
 rw [hd]
 refine hnew.put (Qaj hn) ?_
 exact .own d l.toNat ⟨w.heap.size,c.toNat,z,[],0⟩ (Q8 _ _ _) hle
def Qfw (place:Nat->Option (Nat×Nat))(cs:List V):List (Nat×V)->Option (List V)
 | []=>some cs
 | (i,v)::rest=>match place i with
  | none=>none
  | some (off,n)=>bif Nat.beq v.cells.length n&&Nat.ble (off+n) cs.length then Qfw place (QcW cs off v.cells) rest else none
def V.isV : V->Bool
 | .agg _=>true
 | v=>v.one
theorem V.isV_or {v:V}(h:v.isV=true):v.one=true\/∃cs,v=.agg cs:=by
 cases v<;>first | exact .inl h | exact .inr ⟨_,rfl⟩
theorem QAY (off:Nat):∀(vs:List Value) (k:Nat) (cs:Array Value),off+k+vs.length<=cs.size->
  ((vs.zipIdx k).foldl (fun (cs:Array Value) (p:Value×Nat)=>cs.setIfInBounds (off+p.2) p.1) cs).toList=cs.toList.take (off+k)++vs++cs.toList.drop (off+k+vs.length):=by
 intro vs
 induction vs with
 | nil=>intro k cs _;simp
 | cons v vs ih=>
  intro k cs h
  simp only [QeP]at h
  rw [List.zipIdx_cons,List.foldl_cons,ih (k+1) _ (by simp;omega)]
  have h1:off+k<cs.toList.length:=by simp;omega
  simp only [Array.toList_setIfInBounds]
  rw [show off+(k+1)=off+k+1 by omega]
  rw [List.take_set,List.drop_set]
  have h2:off+k<(cs.toList.take (off+k+1)).length:=by simp;omega
  rw [if_pos (by omega)]
  rw [List.take_succ_eq_append_getElem h1,List.set_append_right _ _ (by simp;omega),show off+k-(List.take (off+k) cs.toList).length=0 by simp;omega]
  simp only [List.set_cons_zero,Qgb,Qr7,List.nil_append,QeP]
  congr 3
  congr 1
  omega
theorem QBU {φ:Nat->Option Blk}{I:Nat->Prop}{w:World}{place:Nat->Option (Nat×Nat)}:∀(ps:List (Nat×Value)) (qs:List (Nat×V)) (xs:Array Value) (cs cs':List V),
  ps.length=qs.length->(∀(j:Nat) p q,ps[j]? = some p->qs[j]? = some q->p.1=q.1/\q.2.isV=true/\Rep φ I w p.2 q.2)->
  xs.size=cs.length->(∀(j:Nat) x v,xs[j]? = some x->cs[j]? = some v->Rep φ I w x v)->Qfw place cs qs=some cs'->
  ∃xs',Instr.fill place xs ps=some xs'/\xs'.size=cs'.length/\∀(j:Nat) x v,xs'[j]? = some x->cs'[j]? = some v->Rep φ I w x v:=by
 intro ps
 induction ps with
 | nil=>
  intro qs xs cs cs' hl _ hs hr hf
  cases qs with
  | cons=>simp at hl
  | nil=>simp only [Qfw,Option.some.injEq]at hf;subst hf;exact⟨xs,rfl,hs,hr⟩
 | cons p ps ih=>
  intro qs xs cs cs' hl hp hs hr hf
  cases qs with
  | nil=>simp at hl
  | cons q qs=>
   obtain⟨i,x⟩:=p
   obtain⟨i',v⟩:=q
   obtain⟨h1,h2,h3⟩:=hp 0 (i,x) (i',v) rfl rfl
   dsimp only at h1 h2 h3
   subst h1
   simp only [Qfw]at hf
   cases hpl:place i with
   | none=>rw [hpl]at hf;cases hf
   | some on=>
    obtain⟨off,n⟩:=on
    rw [hpl]at hf
    dsimp only at hf
    cases hb:(Nat.beq v.cells.length n&&Nat.ble (off+n) cs.length)with
    | false=>rw [hb]at hf;cases hf
    | true=>
     rw [hb]at hf
     rw [QB]at hb
     have hb1:=QaL hb.1
     have hb2:=QbV hb.2
     obtain⟨hcs,hc⟩:=h3.cells (V.isV_or h2)
     have hfold:=QAY off x.cells.toList 0 xs (by simp;omega)
     simp only [Qlq]at hfold
     simp only [Instr.fill,hpl]
     rw [if_neg (by simp;omega)]
     refine ih qs _ _ cs' (by simpa using hl) (fun j p q h1 h2=>hp (j+1) p q h1 h2) ?_ ?_ hf
     ·have:=congrArg List.length hfold
      simp only [Qxq,<-Array.foldl_toList,Array.toList_zipIdx]at this ⊢
      rw [this]
      simp [QcW];omega
     intro j y u hy hu
     have hy':(xs.toList.take off++x.cells.toList++xs.toList.drop (off+x.cells.toList.length))[j]? = some y:=by
      rw [<-hfold,<-hy]
      simp only [<-Array.foldl_toList,Array.toList_zipIdx,Qq5]
     rw [QcW]at hu
     simp only [Qxq]at hy'
     by_cases hj:j<off
     ·rw [Qgb,Qbf (by simp;omega),Qbx,if_pos hj]at hy' hu
      exact hr j y u (by simpa using hy') hu
     by_cases hj2:j<off+n
     ·rw [Qbf (by simp;omega),Qcf (by simp;omega)]at hy' hu
      refine hc (j-off) y u ?_ ?_
      ·rw [<-hy'];simp;congr 1;omega
      rw [<-hu];simp;congr 1;omega
     rw [Qcf (by simp;omega)]at hy' hu
     refine hr j y u ?_ ?_
     ·rw [<-hy'];simp;congr 1;omega
     rw [<-hu];simp;congr 1;omega
def Qsf (P:Program)(T:TypeId):Option (List (Nat×Nat)):=
 match P.underlying T with
 | some (.struct fs)=>fs.toList.mapM fun f=>match P.info? f.type with
  | some i=>some (f.offset,i.size)
  | none=>none
 | _=>none
theorem Qz1 : ∀(fs:List Field) (ps:List (Nat×Nat)) (w:World),(fs.mapM fun f=>match P.info? f.type with | some i=>some (f.offset,i.size) | none=>none)=some ps->
  (fs.mapM fun f=>do pure (f.offset,<-sizeOf f.type):Sem (List (Nat×Nat))).run P w=.ok ps w:=by
 intro fs
 induction fs with
 | nil=>intro ps w h;simp at h;subst h;simp
 | cons f fs ih=>
  intro ps w h
  rw [List.mapM_cons]at h
  cases hi:P.info? f.type with
  | none=>simp [hi]at h
  | some i=>
   simp only [hi,Option.bind_eq_bind,Ql,QoJ,Option.pure_def,Option.some.injEq]at h
   obtain⟨ps',h1,rfl⟩:=h
   have:=ih ps' w h1
   simp only [List.mapM_cons,Sem.run_bind,sizeOf,typeInfo,run_program,Result.andThen_ok,hi,Sem.run_pure]at this ⊢
   rw [this]
   rfl
def St.opds (σ:St):List (Nat×Operand)->Option (List (Nat×V))
 | []=>some []
 | (i,x)::r=>match σ.opd x,σ.opds r with
  | some v,some vs=>some ((i,v)::vs)
  | _,_=>none
theorem RR.opds {φ:Nat->Option Blk}{a:Act}{w:World}(h:RR C φ σ a w):∀(ps:List (Nat×Operand)) (qs:List (Nat×V)),σ.opds ps=some qs->
  ps.length=qs.length/\∀(j:Nat) p q,(ps.map fun p=>(p.1,a.eval p.2))[j]? = some p->qs[j]? = some q->p.1=q.1/\Rep φ (Imm C φ w) w p.2 q.2:=by
 intro ps
 induction ps with
 | nil=>intro qs hq;simp only [St.opds,Option.some.injEq]at hq;subst hq;simp
 | cons p ps ih=>
  intro qs hq
  obtain⟨i,x⟩:=p
  simp only [St.opds]at hq
  split at hq
  ·rename_i v vs hv hvs
   cases hq
   obtain⟨h1,h2⟩:=ih vs hvs
   refine⟨by simp [h1],fun j p q hp hq'=>?_⟩
   cases j with
   | zero=>simp at hp hq';subst hp;subst hq';exact⟨rfl,h.opd hv⟩
   | succ j=>exact h2 j p q hp hq'
  cases hq
theorem RR.fill {φ:Nat->Option Blk}{a:Act}{w:World}(hr:RR C φ σ a w){place:Nat->Option (Nat×Nat)}{ps:List (Nat×Operand)}{qs:List (Nat×V)}{z:Array Value}{vs:List V}
  (hq:σ.opds ps=some qs) (hv:qs.all (fun q=>q.2.isV)=true) (hf:Qfw place (z.toList.map Qgs) qs=some vs):
  ∃xs',Instr.fill place z (ps.map fun p=>(p.1,a.eval p.2))=some xs'/\xs'.size=vs.length/\∀(j:Nat) x v,xs'[j]? = some x->vs[j]? = some v->Rep φ (Imm C φ w) w x v:=by
 obtain⟨h1,h2⟩:=hr.opds ps qs hq
 refine QBU _ qs z _ vs (by simpa using h1) (fun j p q hp hq'=>?_) (by simp) (fun j x v hx hv'=>?_) hf
 ·obtain⟨h3,h4⟩:=h2 j p q hp hq'
  exact⟨h3,by rw [Qad]at hv;exact hv q (Qaa hq'),h4⟩
 simp [hx]at hv';subst hv';exact .dat (Dat.const _)
theorem Stp.build {T d:Nat}{parts:Array (Nat×Operand)}{pl:List (Nat×Nat)}{zs vs:List V}{qs:List (Nat×V)}(ho:o.op=.build T parts)(hd:o.dst=some d)(hn:Nat.ble (d+1) C.n=true)
  (hz:QaF P T=some zs) (hpl:Qsf P T=some pl) (hq:σ.opds parts.toList=some qs) (hv:qs.all (fun q=>q.2.isV)=true)
  (hf:Qfw (pl[·]?) zs qs=some vs):Stp P C o σ (σ.put d (.agg vs)):=by
 refine Stp.same hd hn fun φ a w hr=>?_
 obtain⟨i,z,hi,hz',rfl⟩:=QhP hz
 unfold Qsf at hpl
 split at hpl
 ·rename_i fs hfs
  have hrun:=Qz1 (P:=P) fs.toList pl w hpl
  obtain⟨xs',h1,h2,h3⟩:=hr.fill hq hv hf
  refine⟨.agg xs',?_,.agg _ _ h2 h3⟩
  have hm:(fs.mapM fun f=>do pure (f.offset,<-sizeOf f.type):Sem (Array (Nat×Nat))).run P w=.ok pl.toArray w:=by
   rw [Array.mapM_eq_mapM_toList,Sem.run_map,hrun];rfl
  have e:(fun x:Nat=>pl.toArray[x]?)=fun x:Nat=>pl[x]? := by funext x;simp
  have e2:(parts.map fun p=>(p.1,a.eval p.2)).toList=parts.toList.map fun p=>(p.1,a.eval p.2):=by simp
  simp only [execOp,ho,Instr.build,Sem.run_bind,zeroValue,typeInfo,run_program,Result.andThen_ok,hi,hz',Sem.run_pure,run_underlying hfs,hm,e,e2,h1]
 cases hpl
theorem Stp.buildA {T d n z:Nat}{parts:Array (Nat×Operand)}{zs vs:List V}{qs:List (Nat×V)}(ho:o.op=.build T parts)(hd:o.dst=some d)(hn:Nat.ble (d+1) C.n=true)
  (hz:QaF P T=some zs) (hT:Qqq P T=some (n,z)) (hq:σ.opds parts.toList=some qs) (hv:qs.all (fun q=>q.2.isV)=true)
  (hf:Qfw (fun i=>some (i*z,z)) zs qs=some vs):Stp P C o σ (σ.put d (.agg vs)):=by
 refine Stp.same hd hn fun φ a w hr=>?_
 obtain⟨i,zv,hi,hz',rfl⟩:=QhP hz
 obtain⟨e,hu,j,hj,rfl⟩:=Qx6 hT
 obtain⟨xs',h1,h2,h3⟩:=hr.fill hq hv hf
 refine⟨.agg xs',?_,.agg _ _ h2 h3⟩
 have e2:(parts.map fun p=>(p.1,a.eval p.2)).toList=parts.toList.map fun p=>(p.1,a.eval p.2):=by simp
 simp only [execOp,ho,Instr.build,Sem.run_bind,zeroValue,typeInfo,run_program,Result.andThen_ok,hi,hz',Sem.run_pure,run_underlying hu,sizeOf,hj,e2,h1]
def Qiu (z:Nat):Nat->List V->List (List V)
 | 0,_=>[]
 | n+1,cs=>cs.take z::Qiu z n (cs.drop z)
theorem Qgt (z n:Nat)(cs:List V):(Qiu z n cs).length=n:=by
 induction n generalizing cs with
 | zero=>rfl
 | succ n ih=>simp [Qiu,ih]
theorem QoK (z:Nat):∀(n:Nat) (cs:List V) (i:Nat),i<n->(Qiu z n cs)[i]? = some ((cs.drop (i*z)).take z):=by
 intro n
 induction n with
 | zero=>intro cs i h;omega
 | succ n ih=>
  intro cs i h
  cases i with
  | zero=>simp [Qiu]
  | succ i=>simp only [Qiu,Qr8];rw [ih _ i (by omega),List.drop_drop,QcI];congr 3;omega
theorem Qsg (zv:Array Value)(n z:Nat)(hz:zv.size=z)(h0:z≠0):((Array.range (n*z)).map (zv[· % zv.size]!)).toList.map Qgs=((List.range (n*z)).map fun k=>(zv.toList.map Qgs).getD (k % z) .J):=by
 simp only [Array.toList_map,Array.toList_range,Qmc]
 apply List.map_congr_left
 intro k hk
 have hlt:k % zv.size<zv.size:=Nat.mod_lt _ (by omega)
 simp only [Function.comp,<-hz]
 rw [getElem!_pos zv (k % zv.size) hlt]
 simp [hlt]
theorem Stp.buildSlice {T d e z by_ n:Nat}{parts:Array (Nat×Operand)}{zs vs:List V}{qs:List (Nat×V)}{rs:List (List V)}(ho:o.op=.buildSlice T n parts)(hd:o.dst=some d)(hn:Nat.ble (d+1) C.n=true)
  (hT:Qav P T=some (e,z,by_)) (hz:QaF P e=some zs) (hzl:zs.length=z) (hz0:z≠0) (hbig:n*z<=16777216) (hq:σ.opds parts.toList=some qs) (hv:qs.all (fun q=>q.2.isV)=true)
  (hf:Qfw (fun i=>some (i*z,z)) ((List.range (n*z)).map fun k=>zs.getD (k % z) .J) qs=some vs) (hone:vs.all V.one=true) (hdat:vs.all V.dat=true) (hrs:Qiu z n vs=rs)
  (hfr:look σ.hp d=none):Stp P C o σ ((σ.set d (.arr z rs)).put d (.own d n)):=by
 refine Stp.val fun φ a w hr=>?_
 obtain⟨hu,i,hi,rfl,_⟩:=Qcu hT
 obtain⟨i',zv,hi',hz',rfl⟩:=QhP hz
 rw [hi]at hi';cases hi'
 have hzs:zv.cells.size=i.size:=by simpa using hzl
 have hpos:0<i.size:=Nat.pos_of_ne_zero hz0
 rw [<-Qsg zv.cells n i.size hzs hz0]at hf
 obtain⟨xs',h1,h2,h3⟩:=hr.fill hq hv hf
 have hvl:vs.length=n*i.size:=by
  have key:∀(qs:List (Nat×V)) (cs cs':List V) (pl:Nat->Option (Nat×Nat)),Qfw pl cs qs=some cs'->cs'.length=cs.length:=by
   intro qs
   induction qs with
   | nil=>intro cs cs' pl h;simp only [Qfw,Option.some.injEq]at h;rw [h]
   | cons q qs ih=>
    intro cs cs' pl h
    obtain⟨k,v⟩:=q
    simp only [Qfw]at h
    split at h
    ·cases h
    rename_i off m _
    cases hb:(Nat.beq v.cells.length m&&Nat.ble (off+m) cs.length)with
    | false=>rw [hb]at h;cases h
    | true=>
     rw [hb]at h
     rw [QB]at hb
     have hb1:=QaL hb.1
     have hb2:=QbV hb.2
     rw [ih _ _ _ h]
     simp [QcW];omega
  rw [key _ _ _ _ hf];simp
 subst hrs
 refine⟨.slice (some ⟨w.heap.size,0,none⟩) n n,w.alloc (.cells xs' e),ext φ d ⟨w.heap.size,n,i.size,[],0⟩,?_,?_⟩
 ·have e2:(parts.map fun p=>(p.1,a.eval p.2)).toList=parts.toList.map fun p=>(p.1,a.eval p.2):=by simp
  have hb:¬(n*i.size > 2 ^ 24):=by omega
  by_cases hn0:n*i.size=0
  ·have hn1:n=0:=by rcases Nat.mul_eq_zero.1 hn0 with h | h<;>omega
   subst hn1
   simp only [Qme]at h1
   rw [Qxr,Array.map_empty]at h1
   simp only [execOp,ho,Instr.buildSlice,Sem.run_bind,run_underlying hu,Result.andThen_ok,sizeOf,typeInfo,run_program,hi,Sem.run_pure,Qme,if_true,e2,Qxr,Array.map_empty]
   simp [h1,newRow]
  simp only [execOp,ho,Instr.buildSlice,Sem.run_bind,run_underlying hu,Result.andThen_ok,sizeOf,typeInfo,run_program,hi,Sem.run_pure,if_neg hb,if_neg hn0,zeroValue,hz',e2,h1,newRow,run_newObj]
  simp
 have hN:=hr.none_of_look hfr
 have hnew:=hr.alloc (cap:=n) (z:=i.size) hfr (C.slot hn) (ob:=.arr i.size (Qiu i.size n vs)) (obj:=.cells xs' e)
  (Qba.mk0 rfl rfl (by rw [Qgt];exact Qb2 _) (fun r hr'=>by
   obtain⟨j,hj⟩:=List.getElem?_of_mem hr'
   have hjn:j<n:=by have:=(QT.1 hj).1;rwa [Qgt]at this
   rw [QoK _ _ _ _ hjn]at hj;cases hj
   have:(j+1)*i.size<=n*i.size:=Qct _ hjn
   rw [QcI]at this
   refine⟨by simp;omega,fun v hv=>?_⟩
   rw [Qad]at hone
   exact hone v (QoI (QeQ hv))) _ e (heap_alloc_new w _) (by rw [h2,hvl]) fun m r hm j v hv'=>by
   have hmn:m<n:=by have:=(QT.1 hm).1;rwa [Qgt]at this
   rw [QoK _ _ _ _ hmn]at hm;cases hm
   rw [Qbx]at hv'
   have hjz:j<i.size:=by
    rcases QeR j i.size with h | h
    ·exact h
    rw [if_neg (by omega)]at hv';simp at hv'
   rw [if_pos hjz,QgA]at hv'
   have hlt:m*i.size+j<xs'.size:=by rw [h2];exact(QT.1 hv').1
   refine⟨xs'[m*i.size+j],QeA hlt,?_⟩
   have hD:=(h3 _ _ v (QeA hlt) hv').toDat (by rw [Qad]at hdat;exact hdat v (Qaa hv'))
   exact hD.mono (hr.imm_alloc d n i.size _ hN))
 rw [hd]
 refine hnew.put (Qaj hn) ?_
 exact .own d n ⟨w.heap.size,n,i.size,[],0⟩ (Q8 _ _ _) (Qb2 _)
end
def den1 : Option Nat->V->V
 | some z,.lit (.slice none 0 0)=>.sl z []
 | _,v=>v
def QdU : List (Option Nat)->List V->List V
 | m::ms,v::vs=>den1 m v::QdU ms vs
 | _,vs=>vs
def V.denil (ms:List (Option Nat)):V->V
 | .agg cs=>.agg (QdU ms cs)
 | .tup cs=>.tup (QdU ms cs)
 | v=>den1 (ms.headD none) v
section
variable {φ:Nat->Option Blk}{I:Nat->Prop}{w:World}{x:Value}{v:V}
theorem Rep.den1 {m:Option Nat}(h:Rep φ I w x v):Rep φ I w x (Vm.den1 m v):=by
 unfold Vm.den1
 split
 ·rw [h.lit_inv];exact .dat (.sl0 _ _ _)
 exact h
theorem Qsh : ∀(ms:List (Option Nat)) (vs:List V),(QdU ms vs).length=vs.length:=by
 intro ms
 induction ms with
 | nil=>intro vs;cases vs<;>rfl
 | cons m ms ih=>intro vs;cases vs with
  | nil=>rfl
  | cons v vs=>simp [QdU,ih vs]
theorem Qo7 : ∀(ms:List (Option Nat)) (vs:List V) (j:Nat) (u:V),(QdU ms vs)[j]? = some u->∃m v,vs[j]? = some v/\u=Vm.den1 m v:=by
 intro ms
 induction ms with
 | nil=>intro vs j u h;cases vs<;>exact⟨none,u,h,rfl⟩
 | cons m ms ih=>
  intro vs j u h
  cases vs with
  | nil=>simp [QdU]at h
  | cons v vs=>
   cases j with
   | zero=>simp [QdU]at h;exact⟨m,v,rfl,h.symm⟩
   | succ j=>simp [QdU]at h;exact ih vs j u h
theorem Rep.denil {ms:List (Option Nat)}(h:Rep φ I w x v):Rep φ I w x (v.denil ms):=by
 unfold V.denil
 split
 ·obtain⟨xs,rfl,hs,hr⟩:=h.agg_inv
  refine .agg xs _ (by rw [Qsh];exact hs) fun j y u hy hu=>?_
  obtain⟨m,v,hv,rfl⟩:=Qo7 _ _ j u hu
  exact(hr j y v hy hv).den1
 ·obtain⟨xs,rfl,hs,hr⟩:=h.tup_inv
  refine .tup xs _ (by rw [Qsh];exact hs) fun j y u hy hu=>?_
  obtain⟨m,v,hv,rfl⟩:=Qo7 _ _ j u hu
  exact(hr j y v hy hv).den1
 exact h.den1
end
section
variable {P:Program}{C:Ctx}{σ:St}{o:Oper}
theorem Stp.buildSliceD {T d e z by_ n:Nat}{parts:Array (Nat×Operand)}{zs vs:List V}{qs:List (Nat×V)}{rs:List (List V)}(ms:List (Option Nat))(ho:o.op=.buildSlice T n parts)(hd:o.dst=some d)(hn:Nat.ble (d+1) C.n=true)
  (hT:Qav P T=some (e,z,by_)) (hz:QaF P e=some zs) (hzl:zs.length=z) (hz0:z≠0) (hbig:n*z<=16777216) (hq:σ.opds parts.toList=some qs) (hv:qs.all (fun q=>q.2.isV)=true)
  (hf:Qfw (fun i=>some (i*z,z)) ((List.range (n*z)).map fun k=>zs.getD (k % z) .J) qs=some vs) (hone:(QdU ms vs).all V.one=true) (hdat:(QdU ms vs).all V.dat=true) (hrs:Qiu z n (QdU ms vs)=rs):Stp P C o σ (σ.put d (.sl z rs)):=by
 refine Stp.val fun φ a w hr=>?_
 obtain⟨hu,i,hi,rfl,_⟩:=Qcu hT
 obtain⟨i',zv,hi',hz',rfl⟩:=QhP hz
 rw [hi]at hi';cases hi'
 have hzs:zv.cells.size=i.size:=by simpa using hzl
 have hpos:0<i.size:=Nat.pos_of_ne_zero hz0
 rw [<-Qsg zv.cells n i.size hzs hz0]at hf
 obtain⟨xs',h1,h2,h3⟩:=hr.fill hq hv hf
 have hvl:vs.length=n*i.size:=by
  have key:∀(qs:List (Nat×V)) (cs cs':List V) (pl:Nat->Option (Nat×Nat)),Qfw pl cs qs=some cs'->cs'.length=cs.length:=by
   intro qs
   induction qs with
   | nil=>intro cs cs' pl h;simp only [Qfw,Option.some.injEq]at h;rw [h]
   | cons q qs ih=>
    intro cs cs' pl h
    obtain⟨k,v⟩:=q
    simp only [Qfw]at h
    split at h
    ·cases h
    rename_i off m _
    cases hb:(Nat.beq v.cells.length m&&Nat.ble (off+m) cs.length)with
    | false=>rw [hb]at h;cases h
    | true=>
     rw [hb]at h
     rw [QB]at hb
     have hb1:=QaL hb.1
     have hb2:=QbV hb.2
     rw [ih _ _ _ h]
     simp [QcW];omega
  rw [key _ _ _ _ hf];simp
 subst hrs
 refine⟨.slice (some ⟨w.heap.size,0,none⟩) n n,w.alloc (.cells xs' e),φ,?_,?_⟩
 ·have e2:(parts.map fun p=>(p.1,a.eval p.2)).toList=parts.toList.map fun p=>(p.1,a.eval p.2):=by simp
  have hb:¬(n*i.size > 2 ^ 24):=by omega
  by_cases hn0:n*i.size=0
  ·have hn1:n=0:=by rcases Nat.mul_eq_zero.1 hn0 with h | h<;>omega
   subst hn1
   simp only [Qme]at h1
   rw [Qxr,Array.map_empty]at h1
   simp only [execOp,ho,Instr.buildSlice,Sem.run_bind,run_underlying hu,Result.andThen_ok,sizeOf,typeInfo,run_program,hi,Sem.run_pure,Qme,if_true,e2,Qxr,Array.map_empty]
   simp [h1,newRow]
  simp only [execOp,ho,Instr.buildSlice,Sem.run_bind,run_underlying hu,Result.andThen_ok,sizeOf,typeInfo,run_program,hi,Sem.run_pure,if_neg hb,if_neg hn0,zeroValue,hz',e2,h1,newRow,run_newObj]
  simp
 have hold:∀k,k<w.heap.size->(w.alloc (.cells xs' e)).heap[k]? = w.heap[k]? := fun k hk=>heap_alloc_old w _ hk
 have hst:=hr.step (w':=w.alloc (.cells xs' e)) rfl rfl rfl (by simp) hold
 have hnewI:Imm C φ (w.alloc (.cells xs' e)) w.heap.size:=⟨by simp,fun h=>absurd hr.size (by omega),fun o B hB hk=>absurd (hr.lt o B _ hB hk).1 (Nat.lt_irrefl _)⟩
 have hI:∀k,Imm C φ w k->Imm C φ (w.alloc (.cells xs' e)) k/\(w.alloc (.cells xs' e)).heap[k]? = w.heap[k]? := fun k hk=>⟨⟨Qg8 hk.1 (by simp),hk.2⟩,hold k hk.1⟩
 rw [hd]
 refine hst.put (Qaj hn) (.dat (.sl w.heap.size 0 n n i.size (Qiu i.size n (QdU ms vs)) (fun j=>xs'.getD j undef) hnewI (Qgt _ _ _).symm (Qb2 _) (fun r hr'=>?_) (fun j hj=>?_) (fun m r hm j v hv'=>?_)))
 ·obtain⟨j,hj⟩:=List.getElem?_of_mem hr'
  have hjn:j<n:=by have:=(QT.1 hj).1;rwa [Qgt]at this
  rw [QoK _ _ _ _ hjn]at hj;cases hj
  have:(j+1)*i.size<=n*i.size:=Qct _ hjn
  rw [QcI]at this
  refine⟨by simp [Qsh];omega,fun v hv=>?_⟩
  rw [Qad]at hone
  exact hone v (QoI (QeQ hv))
 ·have:j<xs'.size:=by omega
  have hh:=heap_alloc_new w (.cells xs' e)
  simp only [World.cell?,hh]
  simp [Array.getD,this]
 have hmn:m<n:=by have:=(QT.1 hm).1;rwa [Qgt]at this
 rw [QoK _ _ _ _ hmn]at hm;cases hm
 rw [Qbx]at hv'
 have hjz:j<i.size:=by
  rcases QeR j i.size with h | h
  ·exact h
  rw [if_neg (by omega)]at hv';simp at hv'
 rw [if_pos hjz,QgA]at hv'
 obtain⟨mm,v0,hv0,hvv⟩:=Qo7 _ _ _ _ hv'
 have hlt:m*i.size+j<xs'.size:=by rw [h2];exact(QT.1 hv0).1
 have hR:Rep φ (Imm C φ w) w xs'[m*i.size+j] v:=by rw [hvv];exact(h3 _ _ v0 (QeA hlt) hv0).den1
 have hD:=hR.toDat (by rw [Qad]at hdat;exact hdat v (Qaa hv'))
 have:xs'.getD (m*i.size+j) undef=xs'[m*i.size+j]:=by simp [Array.getD,hlt]
 rw [this]
 exact hD.mono hI
end
end Go.Vm
namespace Go.Vm
open Go Go.RowKit
def V.freeN : Nat->Nat->V->Bool
 | _,q,.own o _=>!(Nat.beq o q)
 | _,q,.loc o _ _=>!(Nat.beq o q)
 | _,q,.map o=>!(Nat.beq o q)
 | 0,_,.agg cs=>cs.all V.plain
 | n+1,q,.agg cs=>cs.all (V.freeN n q)
 | 0,_,.tup _=>false
 | n+1,q,.tup cs=>cs.all (V.freeN n q)
 | 0,_,.clo _ _ _=>false
 | n+1,q,.clo _ fs cs=>fs.all (V.freeN n q)&&cs.all (V.freeN n q)
 | 0,_,.ifc _ _=>false
 | n+1,q,.ifc _ x=>V.freeN n q x
 | _,_,_=>true
def V.freeC (b:Nat)(v:V):Bool:=V.freeN 4 b v
def V.free (b:Nat)(v:V):Bool:=V.freeN 5 b v
def V.kill (b:Nat)(v:V):V:=bif v.free b then v else .J
def V.killC (b:Nat)(v:V):V:=bif v.freeC b then v else .J
theorem QhQ {a b:Nat}(h:(!(Nat.beq a b))=true):a≠b:=by
 intro e;subst e;simp at h
section
variable {φ φ':Nat->Option Blk}{I I':Nat->Prop}{w w':World}
theorem Rep.freeN {b:Nat}(hφ:∀o B,o≠b->φ o=some B->φ' o=some B)(hI:∀k,I k->I' k/\w'.heap[k]? = w.heap[k]?):∀(n:Nat) {x:Value} {v:V},Rep φ I w x v->V.freeN n b v=true->Rep φ' I' w' x v:=by
 have leaf:∀{x:Value} {v:V},Rep φ I w x v->V.freeN 0 b v=true->Rep φ' I' w' x v:=by
  intro x v h hv
  cases h with
  | dat h=>exact .dat (h.mono hI)
  | own0 o=>exact .own0 o
  | own o n B hB hn=>exact .own o n B (hφ o B (QhQ hv) hB) hn
  | loc o i d B hB=>exact .loc o i d B (hφ o B (QhQ hv) hB)
  | map o B hB=>exact .map o B (hφ o B (QhQ hv) hB)
  | agg xs cs hs hr=>exact .dat ((Rep.aggPlain hs hr hv).mono hI)
  | _=>simp [V.freeN]at hv
 intro n
 induction n with
 | zero=>exact leaf
 | succ n ih=>
  intro x v h hv
  cases v with
  | agg cs=>
   obtain⟨xs,rfl,hs,hr⟩:=h.agg_inv
   rw [V.freeN,Qad]at hv
   exact .agg xs cs hs fun j x v hx hv'=>ih (hr j x v hx hv') (hv v (Qaa hv'))
  | tup cs=>
   obtain⟨xs,rfl,hs,hr⟩:=h.tup_inv
   rw [V.freeN,Qad]at hv
   exact .tup xs cs hs fun j x v hx hv'=>ih (hr j x v hx hv') (hv v (Qaa hv'))
  | clo fn vs us=>
   obtain⟨xs,ys,rfl,h1,h2,h3,h4⟩:=h.clo_inv
   rw [V.freeN,QB,Qad,Qad]at hv
   exact .clo fn xs ys vs us h1 h2 (fun j x v hx hv'=>ih (h3 j x v hx hv') (hv.1 v (Qaa hv'))) fun j x v hx hv'=>ih (h4 j x v hx hv') (hv.2 v (Qaa hv'))
  | ifc t u=>
   obtain⟨y,rfl,hr⟩:=h.ifc_inv
   rw [V.freeN]at hv
   exact .ifc t y u (ih hr hv)
  | own o k=>exact leaf h (by rw [V.freeN]at hv ⊢;exact hv)
  | loc o i d=>exact leaf h (by rw [V.freeN]at hv ⊢;exact hv)
  | map o=>exact leaf h (by rw [V.freeN]at hv ⊢;exact hv)
  | _=>exact leaf h rfl
theorem Rep.freeC {b:Nat}(hφ:∀o B,o≠b->φ o=some B->φ' o=some B)(hI:∀k,I k->I' k/\w'.heap[k]? = w.heap[k]?){x:Value}{v:V}(h:Rep φ I w x v)(hv:v.freeC b=true):
  Rep φ' I' w' x v:=Rep.freeN hφ hI 4 h hv
theorem Rep.freeV {b:Nat}(hφ:∀o B,o≠b->φ o=some B->φ' o=some B)(hI:∀k,I k->I' k/\w'.heap[k]? = w.heap[k]?){x:Value}{v:V}(h:Rep φ I w x v)(hv:v.free b=true):
  Rep φ' I' w' x v:=Rep.freeN hφ hI 5 h hv
theorem Rep.kill {b:Nat}(hφ:∀o B,o≠b->φ o=some B->φ' o=some B)(hI:∀k,I k->I' k/\w'.heap[k]? = w.heap[k]?){x:Value}{v:V}(h:Rep φ I w x v):Rep φ' I' w' x (v.kill b):=by
 unfold V.kill
 cases hv:v.free b with
 | true=>exact h.freeV hφ hI hv
 | false=>exact .dat (.J x)
theorem Rep.killC {b:Nat}(hφ:∀o B,o≠b->φ o=some B->φ' o=some B)(hI:∀k,I k->I' k/\w'.heap[k]? = w.heap[k]?){x:Value}{v:V}(h:Rep φ I w x v):Rep φ' I' w' x (v.killC b):=by
 unfold V.killC
 cases hv:v.freeC b with
 | true=>exact h.freeC hφ hI hv
 | false=>exact .dat (.J x)
end
def Ob.kill (b:Nat):Ob->Ob
 | .var cs=>.var (cs.map (V.killC b))
 | .lp l K cs q=>.lp l K (cs.map (V.killC b)) q
 | ob=>ob
def Qiv (b:Nat):List (Nat×V)->List (Nat×V)
 | []=>[]
 | (t,v)::r=>(t,v.kill b)::Qiv b r
def Qfk (b:Nat):List (Nat×Ob)->List (Nat×Ob)
 | []=>[]
 | (o,ob)::r=>bif Nat.beq o b then Qfk b r else(o,ob.kill b)::Qfk b r
def St.kill (σ:St)(b:Nat):St:=⟨Qiv b σ.fr,Qfk b σ.hp⟩
theorem Qnn {b:Nat}:∀(l:List (Nat×V)) (t:Nat) (v:V),look (Qiv b l) t=some v->∃v',look l t=some v'/\v=v'.kill b:=by
 intro l
 induction l with
 | nil=>intro t v h;cases h
 | cons p l ih=>
  intro t v h
  obtain⟨k,u⟩:=p
  by_cases e:k=t
  ·subst e;rw [Qiv,Qv]at h;cases h;exact⟨u,Qv _ _ _,rfl⟩
  rw [Qiv,Qr _ _ e]at h
  rw [Qr _ _ e];exact ih t v h
theorem QcS {b:Nat}:∀(l:List (Nat×Ob)) (t:Nat) (ob:Ob),look (Qfk b l) t=some ob->t≠b/\∃ob',look l t=some ob'/\ob=ob'.kill b:=by
 intro l
 induction l with
 | nil=>intro t v h;cases h
 | cons p l ih=>
  intro t ob h
  obtain⟨k,u⟩:=p
  rw [Qfk]at h
  cases hb:Nat.beq k b with
  | true=>
   rw [hb]at h
   have hk:=QaL hb
   obtain⟨h1,h2⟩:=ih t ob h
   exact⟨h1,by rw [Qr _ _ (by omega)];exact h2⟩
  | false=>
   rw [hb]at h
   by_cases e:k=t
   ·subst e
    simp only [cond_false]at h
    rw [Qv]at h;cases h
    exact⟨QhQ (by rw [hb];rfl),u,Qv _ _ _,rfl⟩
   simp only [cond_false]at h
   rw [Qr _ _ e]at h
   obtain⟨h1,h2⟩:=ih t ob h
   exact⟨h1,by rw [Qr _ _ e];exact h2⟩
theorem QfT {b:Nat}:∀(l:List (Nat×Ob)) (t:Nat) (ob:Ob),t≠b->look l t=some ob->look (Qfk b l) t=some (ob.kill b):=by
 intro l
 induction l with
 | nil=>intro t v _ h;cases h
 | cons p l ih=>
  intro t ob hne h
  obtain⟨k,u⟩:=p
  rw [Qfk]
  by_cases e:k=t
  ·subst e
   rw [Qv]at h;cases h
   cases hb:Nat.beq k b with
   | true=>exact absurd (QaL hb) hne
   | false=>simp only [cond_false];exact Qv _ _ _
  rw [Qr _ _ e]at h
  cases hb:Nat.beq k b with
  | true=>simp only [cond_true];exact ih t ob hne h
  | false=>simp only [cond_false];rw [Qr _ _ e];exact ih t ob hne h
def del (φ:Nat->Option Blk)(b:Nat):Nat->Option Blk:=fun k=>if k=b then none else φ k
theorem Qsi (φ:Nat->Option Blk)(b:Nat):del φ b b=none:=by simp [del]
theorem Qec {φ:Nat->Option Blk}{b k:Nat}(h:k≠b):del φ b k=φ k:=by simp [del,h]
theorem Qb3 {φ:Nat->Option Blk}{b k:Nat}{B:Blk}(h:del φ b k=some B):k≠b/\φ k=some B:=by
 by_cases e:k=b
 ·subst e;rw [Qsi]at h;cases h
 rw [Qec e]at h;exact⟨e,h⟩
theorem QbN.kill {φ φ':Nat->Option Blk}{I I':Nat->Prop}{w w':World}{b:Nat}(hφ:∀o B,o≠b->φ o=some B->φ' o=some B)(h:∀k,I k->I' k/\w'.heap[k]? = w.heap[k]?)
  {B:Blk} (hB:∀k,B.has k->w'.heap[k]? = w.heap[k]?) {ob:Ob} (d:QbN φ I w B ob):QbN φ' I' w' B (ob.kill b):=by
 cases ob with
 | var vs=>
  obtain⟨cs,E,h1,h2,h0,h3⟩:=d
  refine⟨cs,E,(hB _ B.self).trans h1,by simpa using h2,h0,fun j x v hx hv=>?_⟩
  rw [Qak]at hv
  obtain⟨u,hu,rfl⟩:=Qas.1 hv
  exact(h3 j x u hx hu).killC hφ h
 | lp l K vs q=>
  obtain⟨tmps,D,rfl,h1,h2,h3,h4⟩:=d
  refine⟨tmps,D,rfl,h1,(hB _ B.self).trans h2,by simpa using h3,fun j x v hx hv=>?_⟩
  rw [Qak]at hv
  obtain⟨u,hu,rfl⟩:=Qas.1 hv
  exact(h4 j x u hx hu).killC hφ h
 | arr z rs=>exact Qba.mono h (hB _ B.self) d
 | map l=>exact QeV.mono h (hB _ B.self) d
 | grp z l lk=>exact QeW.mono h hB d
 | mapX bm clock L l=>exact Qgr.mono h (hB _ B.self) d
 | itr bm since seen cur=>exact Qo1.mono (hB _ B.self) d
 | itr0=>obtain⟨s,c,h1⟩:=d;exact⟨s,c,(hB _ B.self).trans h1.1,h1.2⟩
 | tbl A z rs=>exact QfS.mono h hB d
 | nst x v=>exact Qo2.mono hB d
 | scr D H=>exact Qo3.mono hB d
theorem Ob.Nil.kill {ob:Ob}{b:Nat}(h:ob.Nil):(ob.kill b).Nil:=by cases ob<;>first | exact h | exact h.elim
section
variable {C:Ctx}{φ:Nat->Option Blk}{σ:St}{a:Act}{w:World}
theorem Imm.of_del {k b:Nat}(h:Imm C φ w k):Imm C (del φ b) w k:=⟨h.1,h.2.1,fun o B hB=>h.2.2 o B (Qb3 hB).2⟩
theorem RR.kill (h:RR C φ σ a w)(b:Nat):RR C (del φ b) (σ.kill b) a w:=by
 have hI:∀k,Imm C φ w k->Imm C (del φ b) w k/\w.heap[k]? = w.heap[k]? := fun k hk=>⟨hk.of_del,rfl⟩
 have hφ:∀o B,o≠b->φ o=some B->del φ b o=some B:=fun o B ho hB=>by rw [Qec ho];exact hB
 refine⟨h.os,h.tape,h.output,h.size,h.kept,fun o o' B B' k h1 h2=>h.inj o o' B B' k (Qb3 h1).2 (Qb3 h2).2,?_,fun o B k hB=>h.lt o B k (Qb3 hB).2,fun o B k hB=>h.new o B k (Qb3 hB).2,⟨fun o B h1 hB=>h.stay.1 o B h1 (Qb3 hB).2,fun o ob B h1 ho hB=>by obtain⟨hne,ob',h2,_⟩:=QcS _ _ _ ho;rw [Qec hne];exact h.stay.2 o ob' B h1 h2 hB⟩,h.tmps,h.defers.mono hI,?_,?_⟩
 ·intro o B hB
  obtain⟨h1,h2⟩:=Qb3 hB
  obtain⟨ob,hob⟩:=h.dom o B h2
  exact⟨_,QfT _ _ _ h1 hob⟩
 ·intro t v hv
  obtain⟨v',hv',rfl⟩:=Qnn _ _ _ hv
  obtain⟨x,hx,hr⟩:=h.frame t v' hv'
  exact⟨x,hx,hr.kill hφ hI⟩
 intro o ob hob
 obtain⟨hne,ob',hob',rfl⟩:=QcS _ _ _ hob
 rcases h.heap o ob' hob' with⟨B,hB,hr⟩|⟨h1,hz⟩
 ·exact .inl ⟨B,hφ o B hne hB,hr.kill hφ hI fun _ _=>rfl⟩
 exact .inr ⟨by rw [Qec hne];exact h1,hz.kill⟩
theorem RR.say (h:RR C φ σ a w){t:Nat}{x:Value}{v:V}(hx:a.tmps[t]? = some x)(hr:Rep φ (Imm C φ w) w x v):RR C φ (σ.put t v) a w:=by
 refine⟨h.os,h.tape,h.output,h.size,h.kept,h.inj,h.dom,h.lt,h.new,h.stay,h.tmps,h.defers,?_,h.heap⟩
 intro t' v' hv'
 by_cases e:t=t'
 ·subst e;rw [St.put,Qv]at hv';cases hv';exact⟨x,hx,hr⟩
 rw [St.put,Qr _ _ e]at hv';exact h.frame t' v' hv'
theorem RR.setNil (h:RR C φ σ a w){b z:Nat}(hlt:b<616)(hb:look σ.hp b=none):RR C φ (σ.set b (.arr z [])) a w:=by
 have hn:=h.none_of_look hb
 refine⟨h.os,h.tape,h.output,h.size,h.kept,h.inj,?_,h.lt,h.new,⟨h.stay.1,fun o ob B hge ho hB=>h.stay.2 o ob B hge (by rwa [σ.look_set_other _ (by omega)]at ho) hB⟩,h.tmps,h.defers,h.frame,?_⟩
 ·intro o B hB
  by_cases e:o=b
  ·subst e;exact⟨_,σ.look_set_same _ _⟩
  obtain⟨ob,h1⟩:=h.dom o B hB;exact⟨ob,by rw [σ.look_set_other _ (Ne.symm e)];exact h1⟩
 intro o ob hob
 by_cases e:o=b
 ·subst e;rw [σ.look_set_same]at hob;cases hob;exact .inr ⟨hn,rfl⟩
 rw [σ.look_set_other _ (Ne.symm e)]at hob;exact h.heap o ob hob
end
section
variable {C:Ctx}{σ:St}{a:Act}{w:World}
theorem R.kill (h:R C σ a w)(b:Nat):R C (σ.kill b) a w:=let ⟨φ,hr⟩:=h;⟨_,hr.kill b⟩
theorem R.adopt (h:R C σ a w){t b z:Nat}(hlt:b<616)(ht:look σ.fr t=some (.lit (.slice none 0 0)))(hb:look σ.hp b=none):R C ((σ.set b (.arr z [])).put t (.own b 0)) a w:=by
 obtain⟨φ,hr⟩:=h
 obtain⟨x,hx,hrep⟩:=hr.frame t _ ht
 have:=hrep.lit_inv
 subst this
 exact⟨φ,(hr.setNil hlt hb).say hx (.own0 b)⟩
theorem R.freeze (h:R C σ a w){t b n z:Nat}{rs us:List (List V)}(hp:Nat.ble 614 b=false)(ht:look σ.fr t=some (.own b n))(hb:look σ.hp b=some (.arr z rs))(hle:n<=rs.length)(hu:rs.take n=us):
  R C ((σ.kill b).put t (.sl z us)) a w:=by
 obtain⟨φ,hr⟩:=h
 subst hu
 obtain⟨x,hx,hrep⟩:=hr.frame t _ ht
 have hk:=hr.kill b
 refine⟨_,hk.say hx (.dat ?_)⟩
 rcases hrep.own_inv with⟨rfl,rfl⟩|⟨B,hB,hcap,rfl⟩
 ·simp only [Qsb];exact .sl0 _ _ _
 obtain⟨rfl,hrl,hok,cs,E,h1,h2,h3⟩:=hr.block hB hb
 have hIb:Imm C (del φ b) w B.b:=by
  refine⟨(hr.lt b B _ hB B.self).1,fun hlt=>?_,fun o B' hB' e=>?_⟩
  ·have hb':b<614:=by
    rcases QeR b 614 with h | h
    ·exact h
    rw [Qqo h]at hp;cases hp
   have:=hr.new b B _ hB B.self hb';omega
  obtain⟨h4,h5⟩:=Qb3 hB'
  exact h4 (hr.inj o b B' B _ h5 hB e B.self)
 refine .sl B.b B.off n B.cap B.z _ (fun j=>cs.getD (B.off+j) undef) hIb (by simp;omega) hcap (fun r hr'=>hok r (QeQ hr')) (fun j hj=>?_) (fun i r hi j v hj=>?_)
 ·have hle2:n*B.z<=B.cap*B.z:=Qct _ hcap
  have:B.off+j<cs.size:=by omega
  simp [World.cell?,h1,Array.getD,this]
 have hi':rs[i]? = some r:=by
  rw [Qbx]at hi
  by_cases hin:i<n
  ·rwa [if_pos hin]at hi
  rw [if_neg hin]at hi;simp at hi
 obtain⟨y,hy,hd⟩:=h3 i r hi' j v hj
 have:cs.getD (B.off+(i*B.z+j)) undef=y:=by simp [Qo0,hy]
 rw [this]
 exact hd.mono fun k hk=>⟨hk.of_del,rfl⟩
def Qi3 (fr:List (Nat×V)):List (Nat×V)->Prop
 | []=>True
 | (t,v)::r=>look fr t=some v/\Qi3 fr r
theorem Qi3.look {fr:List (Nat×V)}:∀{l:List (Nat×V)},Qi3 fr l->∀t v,Vm.look l t=some v->Vm.look fr t=some v:=by
 intro l
 induction l with
 | nil=>intro _ t v h;cases h
 | cons p l ih=>
  intro ⟨h1,h2⟩ t v h
  obtain⟨k,u⟩:=p
  by_cases e:k=t
  ·subst e;rw [Qv]at h;cases h;exact h1
  rw [Qr _ _ e]at h;exact ih h2 t v h
theorem R.sub (h:R C σ a w){fr:List (Nat×V)}(hf:Qi3 σ.fr fr):R C ⟨fr,σ.hp⟩ a w:=let ⟨φ,hr⟩:=h;⟨φ,hr.le hf.look⟩
end
end Go.Vm
namespace Go.Vm
open Go Go.RowKit
def Qab : List Nat->Nat->Bool
 | [],_=>false
 | k::r,t=>Nat.beq k t||Qab r t
def V.inC (ks:List Nat):V->Bool
 | .own o _=>Qab ks o
 | .loc o _ _=>Qab ks o
 | .map o=>Qab ks o
 | .agg cs=>cs.all V.plain
 | .tup _=>false
 | .clo _ _ _=>false
 | .ifc _ x=>x.inC ks
 | _=>true
def V.inK (ks:List Nat):V->Bool
 | .agg cs=>cs.all (V.inC ks)
 | .clo _ fs cs=>fs.all (V.inC ks)&&cs.all (V.inC ks)
 | v=>v.inC ks
def Ob.inK (ks:List Nat):Ob->Bool
 | .var cs=>cs.all (V.inK ks)
 | .lp _ _ cs _=>cs.all (V.inK ks)
 | _=>true
theorem Rep.inC {φ φ':Nat->Option Blk}{I I':Nat->Prop}{w:World}{ks:List Nat}(hφ:∀o B,Qab ks o=true->φ o=some B->φ' o=some B)(hI:∀k,I k->I' k){x:Value}{v:V}
  (h:Rep φ I w x v) (hv:v.inC ks=true):Rep φ' I' w x v:=by
 induction h with
 | dat h=>exact .dat (h.mono fun k hk=>⟨hI k hk,rfl⟩)
 | own0 o=>exact .own0 o
 | own o n B hB hn=>exact .own o n B (hφ o B hv hB) hn
 | loc o i d B hB=>exact .loc o i d B (hφ o B hv hB)
 | map o B hB=>exact .map o B (hφ o B hv hB)
 | ifc t x v _ ih=>exact .ifc t x v (ih hv)
 | agg xs cs hs hr _=>exact .dat ((Rep.aggPlain hs hr hv).mono fun k hk=>⟨hI k hk,rfl⟩)
 | _=>simp [V.inC]at hv
theorem Rep.inK {φ φ':Nat->Option Blk}{I I':Nat->Prop}{w:World}{ks:List Nat}(hφ:∀o B,Qab ks o=true->φ o=some B->φ' o=some B)(hI:∀k,I k->I' k){x:Value}{v:V}
  (h:Rep φ I w x v) (hv:v.inK ks=true):Rep φ' I' w x v:=by
 cases v with
 | agg cs=>
  obtain⟨xs,rfl,hs,hr⟩:=h.agg_inv
  rw [V.inK,Qad]at hv
  exact .agg xs cs hs fun j x v hx hv'=>(hr j x v hx hv').inC hφ hI (hv v (Qaa hv'))
 | clo fn vs us=>
  obtain⟨xs,ys,rfl,h1,h2,h3,h4⟩:=h.clo_inv
  rw [V.inK,QB,Qad,Qad]at hv
  exact .clo fn xs ys vs us h1 h2 (fun j x v hx hv'=>(h3 j x v hx hv').inC hφ hI (hv.1 v (Qaa hv'))) fun j x v hx hv'=>(h4 j x v hx hv').inC hφ hI (hv.2 v (Qaa hv'))
 | _=>exact h.inC hφ hI hv
def Qg9 (hp:List (Nat×Ob)):List (Nat×Ob)->Prop
 | []=>True
 | (o,ob)::r=>look hp o=some ob/\Qg9 hp r
theorem Qg9.look {hp:List (Nat×Ob)}:∀{l:List (Nat×Ob)},Qg9 hp l->∀t v,Vm.look l t=some v->Vm.look hp t=some v:=by
 intro l
 induction l with
 | nil=>intro _ t v h;cases h
 | cons p l ih=>
  intro ⟨h1,h2⟩ t v h
  obtain⟨k,u⟩:=p
  by_cases e:k=t
  ·subst e;rw [Qv]at h;cases h;exact h1
  rw [Qr _ _ e]at h;exact ih h2 t v h
def keys {α:Type}:List (Nat×α)->List Nat
 | []=>[]
 | (k,_)::r=>k::keys r
theorem Qo8 {α:Type}:∀{l:List (Nat×α)} {t:Nat} {v:α},look l t=some v->Qab (keys l) t=true:=by
 intro l
 induction l with
 | nil=>intro t v h;cases h
 | cons p l ih=>
  intro t v h
  obtain⟨k,u⟩:=p
  by_cases e:k=t
  ·subst e;simp [keys,Qab]
  rw [Qr _ _ e]at h;simp [keys,Qab,ih h]
theorem Qzx {α:Type}:∀{l:List (Nat×α)} {t:Nat},Qab (keys l) t=true->∃v,look l t=some v:=by
 intro l
 induction l with
 | nil=>intro t h;cases h
 | cons p l ih=>
  intro t h
  obtain⟨k,u⟩:=p
  by_cases e:k=t
  ·subst e;exact⟨u,Qv _ _ _⟩
  rw [Qr _ _ e]
  simp only [keys,Qab,Qcs]at h
  rcases h with h | h
  ·exact absurd (QaL h) e
  exact ih h
def St.closed (σ:St):Bool:=σ.fr.all (fun p=>p.2.inK (keys σ.hp))&&σ.hp.all (fun p=>p.2.inK (keys σ.hp))
theorem Qbi {α:Type}:∀{l:List (Nat×α)} {t:Nat} {v:α},look l t=some v->(t,v)∈l:=by
 intro l
 induction l with
 | nil=>intro t v h;cases h
 | cons p l ih=>
  intro t v h
  obtain⟨k,u⟩:=p
  by_cases e:k=t
  ·subst e;rw [Qv]at h;cases h;exact Qbz
  rw [Qr _ _ e]at h;exact Qb1 _ (ih h)
section
variable {C:Ctx}{σ:St}{a:Act}{w:World}
theorem R.to (h:R C σ a w){fr:List (Nat×V)}{hp:List (Nat×Ob)}(hf:Qi3 σ.fr fr)(hh:Qg9 σ.hp hp)(hk:St.closed ⟨fr,hp⟩=true):R C ⟨fr,hp⟩ a w:=by
 obtain⟨φ,hr⟩:=h
 rw [St.closed,QB,Qad,Qad]at hk
 let φ':Nat->Option Blk:=fun o=>if Qab (keys hp) o=true then φ o else none
 have hs:∀o B,φ' o=some B->Qab (keys hp) o=true/\φ o=some B:=by
  intro o B hB
  simp only [φ']at hB
  split at hB
  ·exact⟨by assumption,hB⟩
  cases hB
 have hφ:∀o B,Qab (keys hp) o=true->φ o=some B->φ' o=some B:=fun o B h1 h2=>by simp only [φ',h1,if_true];exact h2
 have hI:∀k,Imm C φ w k->Imm C φ' w k:=fun k hk=>⟨hk.1,hk.2.1,fun o B hB=>hk.2.2 o B (hs o B hB).2⟩
 refine⟨φ',hr.os,hr.tape,hr.output,hr.size,hr.kept,fun o o' B B' k h1 h2=>hr.inj o o' B B' k (hs _ _ h1).2 (hs _ _ h2).2,fun o B hB=>Qzx (hs o B hB).1,
  fun o B k hB=>hr.lt o B k (hs o B hB).2,fun o B k hB=>hr.new o B k (hs o B hB).2,⟨fun o B h1 hB=>hr.stay.1 o B h1 (hs o B hB).2,fun o ob B h1 ho hB=>hφ o B (Qo8 ho) (hr.stay.2 o ob B h1 (hh.look o ob ho) hB)⟩,hr.tmps,hr.defers.mono fun k hk=>⟨hI k hk,rfl⟩,?_,?_⟩
 ·intro t v hv
  obtain⟨x,hx,hrep⟩:=hr.frame t v (hf.look t v hv)
  exact⟨x,hx,hrep.inK hφ hI (hk.1 (t,v) (Qbi hv))⟩
 intro o ob hob
 have hm:=Qo8 hob
 rcases hr.heap o ob (hh.look o ob hob)with⟨B,hB,hrep⟩|⟨h1,h2⟩
 ·refine .inl ⟨B,hφ o B hm hB,?_⟩
  have hok:=hk.2 (o,ob) (Qbi hob)
  cases ob with
  | var cs=>
   obtain⟨xs,E,h1,h2,h0,h3⟩:=hrep
   rw [Ob.inK,Qad]at hok
   exact⟨xs,E,h1,h2,h0,fun j x v hx hv=>(h3 j x v hx hv).inK hφ hI (hok v (Qaa hv))⟩
  | lp l K vs q=>
   obtain⟨tmps,D,e1,h1,h2,h3,h4⟩:=hrep
   rw [Ob.inK,Qad]at hok
   exact⟨tmps,D,e1,h1,h2,h3,fun j x v hx hv=>(h4 j x v hx hv).inK hφ hI (hok v (Qaa hv))⟩
  | arr z rs=>exact Qba.mono (fun k hk=>⟨hI k hk,rfl⟩) rfl hrep
  | map l=>exact QeV.mono (fun k hk=>⟨hI k hk,rfl⟩) rfl hrep
  | grp z l lk=>exact QeW.mono (fun k hk=>⟨hI k hk,rfl⟩) (fun _ _=>rfl) hrep
  | mapX bm clock L l=>exact Qgr.mono (fun k hk=>⟨hI k hk,rfl⟩) rfl hrep
  | itr bm since seen cur=>exact hrep
  | itr0=>exact hrep
  | tbl A z rs=>exact QfS.mono (fun k hk=>⟨hI k hk,rfl⟩) (fun _ _=>rfl) hrep
  | nst x v=>exact hrep
  | scr D H=>exact hrep
 exact .inr ⟨by simp only [φ',hm,if_true];exact h1,h2⟩
end
def QtF (φ:Nat->Option Blk)(I:Nat->Prop)(w:World)(x:Value)(z:Nat)(us:List (List V)):Prop:=
 (∃a cap,x=.slice a 0 cap/\us=[])\/
 ∃(p:Addr) (cap:Nat) (news:List Value),x=.slice (some p) us.length cap/\news.length=us.length*z/\(∀(j:Nat) u,news[j]? = some u->w.cell? (p.add j)=some u)/\(∀u∈news,u.oneCell'=true)/\
  (∀r∈us,Qfv z r)/\∀(i:Nat) r,us[i]? = some r->∀(j:Nat) v,r[j]? = some v->∃u,news[i*z+j]? = some u/\Dat I w u v
theorem Rep.source_sl {φ:Nat->Option Blk}{I:Nat->Prop}{w:World}{x:Value}{z:Nat}{us:List (List V)}(h:Rep φ I w x (.sl z us)):QtF φ I w x z us:=by
 rcases h.sl_inv with⟨a,cap,rfl,rfl⟩|⟨b,off,cap,rfl,hI,hcap,hok,c,hc,hd⟩
 ·exact .inl ⟨a,cap,rfl,rfl⟩
 refine .inr ⟨⟨b,off,none⟩,cap,(List.range (us.length*z)).map c,rfl,by simp,fun j u hu=>?_,fun u hu=>?_,hok,fun i r hi j v hj=>?_⟩
 ·simp only [Qak,Qas,QT,QuJ,QuI]at hu
  obtain⟨_,⟨hj,rfl⟩,rfl⟩:=hu
  rw [Addr.add_lit];exact hc j hj
 ·simp only [QaE,Qi1]at hu
  obtain⟨k,hk,rfl⟩:=hu
  have hz:0<z:=by rcases Nat.eq_zero_or_pos z with h | h;(· subst h;simp at hk);exact h
  have hi:k / z<us.length:=(Nat.div_lt_iff_lt_mul hz).2 hk
  have hrow:=hok us[k / z] (Qby _)
  have hj:k % z<(us[k / z]).length:=by rw [hrow.1];exact Nat.mod_lt _ hz
  have hD:=hd (k / z) _ (QG hi) (k % z) _ (QG hj)
  rw [Nat.mul_comm,Nat.div_add_mod]at hD
  exact((Rep.dat (φ:=φ) hD).oneCell (hrow.2 _ (Qby _))).2
 have hin:i<us.length:=(QT.1 hi).1
 have hjz:j<z:=by have:=(QT.1 hj).1;rwa [(hok r (Qaa hi)).1]at this
 have hlt:i*z+j<us.length*z:=by
  have:(i+1)*z<=us.length*z:=Qct _ hin
  rw [QcI]at this;omega
 exact⟨c (i*z+j),by simp [hlt],hd i r hi j v hj⟩
theorem Rep.source_own {C:Ctx}{φ:Nat->Option Blk}{σ:St}{a:Act}{w:World}(hr:RR C φ σ a w){x:Value}{b n z:Nat}{rs:List (List V)}(h:Rep φ (Imm C φ w) w x (.own b n))
  (hb:look σ.hp b=some (.arr z rs)) (hn:n<=rs.length):QtF φ (Imm C φ w) w x z (rs.take n):=by
 rcases h.own_inv with⟨rfl,rfl⟩|⟨B,hB,hcap,rfl⟩
 ·exact .inl ⟨none,0,rfl,by simp⟩
 obtain⟨rfl,hrl,hok,cs,E,h1,h2,h3⟩:=hr.block hB hb
 have hle2:B.off+n*B.z<=cs.size:=QbM (Nat.add_le_add_left (Qct _ hcap) _) h2
 have hlen:(rs.take n).length=n:=by simp;omega
 have get:∀(i:Nat) r,(rs.take n)[i]? = some r->rs[i]? = some r/\i<n:=by
  intro i r hi
  rw [Qbx]at hi
  by_cases h:i<n
  ·rw [if_pos h]at hi;exact⟨hi,h⟩
  rw [if_neg h]at hi;simp at hi
 refine .inr ⟨⟨B.b,B.off,none⟩,B.cap,(cs.toList.drop B.off).take (n*B.z),by rw [hlen],by simp [hlen];omega,fun j u hu=>?_,fun u hu=>?_,fun r hr'=>hok r (QeQ hr'),fun i r hi j v hj=>?_⟩
 ·rw [Qbx]at hu
  by_cases h:j<n*B.z
  ·rw [if_pos h]at hu
   rw [QgA]at hu
   simp [Addr.add_lit,World.cell?,h1];simpa using hu
  rw [if_neg h]at hu;simp at hu
 ·obtain⟨k,hk⟩:=List.getElem?_of_mem hu
  rw [Qbx]at hk
  by_cases h:k<n*B.z
  ·rw [if_pos h]at hk
   have hz:0<B.z:=by rcases Nat.eq_zero_or_pos B.z with h' | h';(· rw [h']at h;omega);exact h'
   have hi:k / B.z<rs.length:=Qg8 ((Nat.div_lt_iff_lt_mul hz).2 h) hn
   have hrow:=hok rs[k / B.z] (Qby _)
   have hj:k % B.z<(rs[k / B.z]).length:=by rw [hrow.1];exact Nat.mod_lt _ hz
   obtain⟨y,hy,hD⟩:=h3 (k / B.z) _ (QG hi) (k % B.z) _ (QG hj)
   rw [Nat.mul_comm,Nat.div_add_mod]at hy
   have:y=u:=by
    have e:cs[B.off+k]? = some u:=by rw [QgA]at hk;simpa using hk
    rw [e]at hy;exact(Option.some.inj hy).symm
   subst this
   exact((Rep.dat (φ:=φ) hD).oneCell (hrow.2 _ (Qby _))).2
  rw [if_neg h]at hk;simp at hk
 obtain⟨hi',hin⟩:=get i r hi
 obtain⟨y,hy,hD⟩:=h3 i r hi' j v hj
 have hjz:j<B.z:=by have:=(QT.1 hj).1;rwa [(hok r (Qaa hi')).1]at this
 have hlt:i*B.z+j<n*B.z:=by
  have:(i+1)*B.z<=n*B.z:=Qct _ hin
  rw [QcI]at this;omega
 exact⟨y,by rw [Qbx,if_pos hlt,QgA];simpa using hy,hD⟩
end Go.Vm
namespace Go.Vm
open Go Go.RowKit
theorem QyM {P:Program}{T U ty e e':TypeId}{base:Option Addr}{n c:Nat}{x:Value}{w:World}{i:TypeInfo}(hT:P.underlying T=some (.slice e))(hU:P.underlying U=some (.slice e'))(hi:P.info? e=some i):
  (Builtin.append_ #[T,U] ty #[.slice base n c,x]).run P w=(Builtin.append_ #[T,T] ty #[.slice base n c,x]).run P w:=by
 unfold Builtin.append_
 simp only [QiZ,List.getElem?_cons_zero,Qr8,Sem.run_bind,run_underlying hT,Result.andThen_ok,sizeOf,typeInfo,run_program,hi,Sem.run_pure,run_underlying hU]
theorem Qqs {P:Program}{T ty e:TypeId}{w:World}{i:TypeInfo}(hT:P.underlying T=some (.slice e))(hi:P.info? e=some i)(base a:Option Addr)(n cap c:Nat)(hle:n<=cap):
  (Builtin.append_ #[T,T] ty #[.slice base n cap,.slice a 0 c]).run P w=.ok (.slice base n cap) w:=by
 cases base<;>cases a<;>simp [Builtin.append_,run_underlying hT,sizeOf,typeInfo,hi,Builtin.lenOf,hle,Builtin.firstCells,loadCells,loadCellsFrom,storeCells]
theorem Qww {P:Program}{T ty e E:TypeId}{w:World}{i:TypeInfo}(hT:P.underlying T=some (.slice e))(hi:P.info? e=some i)(g off sLen sCap:Nat)(cur:Array Value)(hg:w.heap[g]? = some (.cells cur E (0,0)))
  (a:Addr) (m c:Nat) (news:List Value) (hl:news.length=m*i.size) (hnews:∀(j:Nat) u,news[j]? = some u->w.cell? (a.add j)=some u) (h1:∀u∈news,u.oneCell'=true)
  (hroom:sLen+m<=sCap) (hfit:off+sLen*i.size+news.length<=cur.size):
  (Builtin.append_ #[T,T] ty #[.slice (some ⟨g,off,none⟩) sLen sCap,.slice (some a) m c]).run P w =
   .ok (.slice (some ⟨g,off,none⟩) (sLen+m) sCap) (w.setRow g (cur.toList.take (off+sLen*i.size)++news++cur.toList.drop (off+sLen*i.size+news.length)).toArray):=by
 have hf:(Builtin.firstCells i.size m (.slice (some a) m c)).run P w=.ok news.toArray w:=by
  have:=run_loadCells_list (P:=P) w a news hnews
  rw [hl]at this
  simpa [Builtin.firstCells] using this
 have hst:=run_storeCells_at P g (off+sLen*i.size) E news 0 cur w hg (by simpa using hfit) h1
 simp only [Qlq]at hst
 simp [Builtin.append_,run_underlying hT,sizeOf,typeInfo,hi,Builtin.lenOf,hroom,hf,Addr.add_lit,hst]
section
variable {P:Program}{C:Ctx}{σ:St}{o:Oper}
def St.app (σ:St)(b z d n:Nat)(rs:List (List V)):St:=((σ.kill b).set b (.arr z rs)).put d (.own b n)
theorem RR.moved {φ:Nat->Option Blk}{a:Act}{w:World}(hr:RR C φ σ a w){b cap z:Nat}{E:TypeId}{cells:Array Value}{rs:List (List V)}(hb:b<616)(w':World)
  (hw:w'=w.drew.alloc (.cells cells E)) (hrep:Qba (Imm C φ w) w' ⟨w.heap.size,cap,z,[],0⟩ z rs):
  RR C (ext (del φ b) b ⟨w.heap.size,cap,z,[],0⟩) ((σ.kill b).set b (.arr z rs)) a w':=by
 subst hw
 have hk:=hr.kill b
 have hk':RR C (del φ b) (σ.kill b) a w.drew:=hk.step rfl rfl rfl (Qb2 _) (fun _ _=>rfl)
 have hnone:look (σ.kill b).hp b=none:=by
  cases h:look (σ.kill b).hp b with
  | none=>rfl
  | some ob=>exact absurd rfl (QcS _ _ _ h).1
 refine hk'.alloc (cap:=cap) (z:=z) hnone hb ?_
 refine Qba.mono (w:=w.drew.alloc (.cells cells E)) ?_ rfl hrep
 intro k hk2
 refine⟨?_,rfl⟩
 have:=hk'.imm_alloc b cap z (.cells cells E) (Qsi _ _) k ⟨hk2.1,hk2.2.1,fun o B hB=>hk2.2.2 o B (Qb3 hB).2⟩
 exact this.1
theorem RR.reset {φ:Nat->Option Blk}{a:Act}{w:World}(h:RR C φ σ a w)(b:Nat)(ob:Ob)(hex:∃ob0,look σ.hp b=some ob0)(hob:(∃B,φ b=some B/\QbN φ (Imm C φ w) w B ob)\/(φ b=none/\ob.Nil)):
  RR C φ ((σ.kill b).set b ob) a w:=by
 have hI:∀k,Imm C φ w k->Imm C φ w k/\w.heap[k]? = w.heap[k]? := fun k hk=>⟨hk,rfl⟩
 have hφ:∀o B,o≠b->φ o=some B->φ o=some B:=fun _ _ _ h=>h
 refine⟨h.os,h.tape,h.output,h.size,h.kept,h.inj,?_,h.lt,h.new,⟨h.stay.1,fun o ob' B hge ho hB=>by
  by_cases e:o=b
  ·subst e;obtain⟨ob0,h0⟩:=hex;exact h.stay.2 o ob0 B hge h0 hB
  rw [St.look_set_other _ _ (Ne.symm e)]at ho;obtain⟨_,ob2,h2,_⟩:=QcS _ _ _ ho;exact h.stay.2 o ob2 B hge h2 hB⟩,h.tmps,h.defers,?_,?_⟩
 ·intro o B hB
  by_cases e:o=b
  ·subst e;exact⟨ob,St.look_set_same _ _ _⟩
  obtain⟨ob',h'⟩:=h.dom o B hB
  exact⟨_,by rw [St.look_set_other _ _ (Ne.symm e)];exact QfT _ _ _ e h'⟩
 ·intro t v hv
  obtain⟨v',hv',rfl⟩:=Qnn _ _ _ hv
  obtain⟨x,hx,hr⟩:=h.frame t v' hv'
  exact⟨x,hx,hr.kill hφ hI⟩
 intro o ob' hob'
 by_cases e:o=b
 ·subst e;rw [St.look_set_same]at hob';cases hob';exact hob
 rw [St.look_set_other _ _ (Ne.symm e)]at hob'
 obtain⟨hne,ob2,hob2,rfl⟩:=QcS _ _ _ hob'
 rcases h.heap o ob2 hob2 with⟨B,hB,hr⟩|⟨h1,hz⟩
 ·exact .inl ⟨B,hB,hr.kill hφ hI fun _ _=>rfl⟩
 exact .inr ⟨h1,hz.kill⟩
theorem St.set_kill (σ:St)(b:Nat)(ob:Ob):(σ.set b ob).kill b=σ.kill b:=by
 simp [St.set,St.kill,Qfk]
theorem Qno {I:Nat->Prop}{w:World}{z n:Nat}{rs us:List (List V)}{olds news rest:List Value}(hnl:rs.length=n)(hol:olds.length=n*z)(hok:∀r∈rs,Qfv z r)(huk:∀r∈us,Qfv z r)(hul:news.length=us.length*z)
  (ho:∀(i:Nat) r,rs[i]? = some r->∀(j:Nat) v,r[j]? = some v->∃u,olds[i*z+j]? = some u/\Dat I w u v)
  (hu:∀(i:Nat) r,us[i]? = some r->∀(j:Nat) v,r[j]? = some v->∃u,news[i*z+j]? = some u/\Dat I w u v):
  (∀r∈rs++us,Qfv z r)/\∀(i:Nat) r,(rs++us)[i]? = some r->∀(j:Nat) v,r[j]? = some v->∃u,(olds++(news++rest))[i*z+j]? = some u/\Dat I w u v:=by
 refine⟨fun r hr=>?_,fun i r hi j v hj=>?_⟩
 ·rcases QcH.1 hr with h | h
  ·exact hok r h
  exact huk r h
 by_cases hin:i<n
 ·rw [Qbf (by omega)]at hi
  obtain⟨u,h1,h2⟩:=ho i r hi j v hj
  exact⟨u,by rw [Qbf (QT.1 h1).1];exact h1,h2⟩
 rw [Qcf (by omega)]at hi
 obtain⟨u,h1,h2⟩:=hu _ r hi j v hj
 have e:i*z+j=olds.length+((i-rs.length)*z+j):=by
  have:i*z=n*z+(i-n)*z:=by rw [<-QcI];congr 1;omega
  rw [hol,hnl];omega
 refine⟨u,?_,h2⟩
 rw [e,Qcf (by omega),Nat.add_sub_cancel_left,Qbf (QT.1 h1).1]
 exact h1
theorem Qwx {T U d e e' z z' by_ by' b n m:Nat}{x y:Operand}{rs us rs':List (List V)}{zs:List V}(ho:o.op=.call { callee:=.builtin .append,args:=#[x,y],argTypes:=#[T,U] })
  (hd:o.dst=some d) (hn:Nat.ble (d+1) C.n=true) (hx:σ.opd x=some (.own b n)) (hb:look σ.hp b=some (.arr z rs)) (hb1:Nat.ble 616 b=false) (hnl:rs.length=n)
  (hT:Qav P T=some (e,z,by_)) (hU:Qav P U=some (e',z',by')) (hz:QaF P e=some zs) (hzl:zs.length=z) (hz0:z≠0) (hsm:n+us.length<=140737488355328) (hbytes:(n+us.length)*by_<=140737488355328)
  (hy:∀φ a w,RR C φ σ a w->QtF φ (Imm C φ w) w (a.eval y) z us) (he:rs++us=rs') (hm:n+us.length=m):∀φ a w,RR C φ σ a w->∃v w' φ',(execOp a.eval o).run P w=.ok (.value v) w'/\RR C φ' (σ.app b z d m rs') (a.put o.dst v) w':=by
 intro φ a w hr
 subst hnl he hm
 obtain⟨hu,i,hi,rfl,rfl⟩:=Qcu hT
 obtain⟨hu',_⟩:=Qcu hU
 obtain⟨i',zv,hi',hz',hmap⟩:=QhP hz
 rw [hi]at hi';cases hi'
 have hb2:b<616:=by
  rcases QeR b 616 with h | h
  ·exact h
  rw [Qqo h]at hb1;cases hb1
 have hzs:zv.cells.size=i.size:=by rw [<-hzl,<-hmap];simp
 have hpos:0<i.size:=Nat.pos_of_ne_zero hz0
 have hexec:∀base n c v w',a.eval x=.slice base n c->(Builtin.append_ #[T,T] o.type #[.slice base n c,a.eval y]).run P w=.ok v w'->(execOp a.eval o).run P w=.ok (.value v) w':=by
  intro base n c v w' h1 h
  simp only [execOp,ho,resolve,invoke,builtin,Sem.run_bind,Sem.run_pure,Result.andThen_ok,List.map_toArray,Qgc,List.map_nil,h1,QyM hu hu' hi,h]
 have hown:=(hr.opd hx).own_inv
 by_cases h0:us=[]
 ·
  subst h0
  have hsrc:∃p c,a.eval y=.slice p 0 c:=by
   rcases hy φ a w hr with⟨p,c,h,_⟩|⟨p,c,_,h,_⟩
   ·exact⟨p,c,h⟩
   exact⟨some p,c,by simpa using h⟩
  obtain⟨p,c,hp⟩:=hsrc
  simp only [List.append_nil,Qln,Qlq]
  rcases hown with⟨h1,h2⟩|⟨B,hB,hcap,h1⟩
  ·refine⟨.slice none 0 0,w,φ,hexec none 0 0 _ _ h1 (by rw [hp];exact Qqs hu hi none p 0 0 c (Qb2 _)),?_⟩
   have:=hr.reset b (.arr i.size rs) ⟨_,hb⟩ (by
    rcases hr.heap b _ hb with⟨B,hB,hrep⟩|hn
    ·exact .inl ⟨B,hB,hrep⟩
    exact .inr hn)
   rw [hd,h2]
   exact this.put (Qaj hn) (.own0 b)
  refine⟨.slice (some ⟨B.b,B.off,none⟩) rs.length B.cap,w,φ,hexec _ _ _ _ _ h1 (by rw [hp];exact Qqs hu hi _ p _ _ c hcap),?_⟩
  have:=hr.reset b (.arr i.size rs) ⟨_,hb⟩ (.inl ⟨B,hB,hr.block hB hb⟩)
  rw [hd]
  exact this.put (Qaj hn) (.own b _ B hB hcap)
 have hpos2:0<us.length:=List.length_pos_iff.2 h0
 obtain⟨p,c,news,hyv,hnews,hcells,hone,hokU,hrowU⟩:∃(p:Addr) (cap:Nat) (news:List Value),a.eval y=.slice (some p) us.length cap/\news.length=us.length*i.size/\(∀(j:Nat) u,news[j]? = some u->w.cell? (p.add j)=some u)/\(∀u∈news,u.oneCell'=true)/\
   (∀r∈us,Qfv i.size r)/\∀(k:Nat) r,us[k]? = some r->∀(j:Nat) v,r[j]? = some v->∃u,news[k*i.size+j]? = some u/\Dat (Imm C φ w) w u v:=by
  rcases hy φ a w hr with⟨_,_,_,h⟩|h
  ·exact absurd h h0
  exact h
 rcases hown with⟨h1,h2⟩|⟨B,hB,hcap,h1⟩
 ·
  have hrs:rs=[]:=List.eq_nil_of_length_eq_zero h2
  subst hrs
  have hrun:=run_append_nil (P:=P) w T o.type e i zv hu hi hz' p us.length c news hnews hcells hpos2 (by omega) (by
   have:us.length*i.bytes<=140737488355328:=by simpa using hbytes
   omega)
  have hge:=grownCap_ge w us.length 0 e
  simp only [List.nil_append,Qln,Qlr]
  refine⟨_,_,ext (del φ b) b ⟨w.heap.size,grownCap w us.length 0 e,i.size,[],0⟩,hexec none 0 0 _ _ h1 (by rw [hyv];exact hrun),?_⟩
  rw [hd]
  obtain⟨g1,g2⟩:=Qno (I:=Imm C φ w) (w:=w) (n:=0) (rs:=[]) (olds:=[]) (rest:=(Builtin.zeroCells zv.cells (grownCap w us.length 0 e-us.length)).toList) rfl (by simp) (by simp) hokU hnews (by simp) hrowU
  have hmv:=hr.moved (b:=b) (cap:=grownCap w us.length 0 e) (z:=i.size) (E:=e) (cells:=news.toArray++Builtin.zeroCells zv.cells (grownCap w us.length 0 e-us.length)) (rs:=us) hb2 _ rfl
   (Qba.mk0 rfl rfl hge hokU _ e (heap_alloc_new w.drew _) (by simp [size_zeroCells,hzs,hnews,<-QcI];congr 1;omega) fun k r hk j v hj=>by
    obtain⟨u,hu1,hu2⟩:=g2 k r (by simpa using hk) j v hj
    refine⟨u,?_,Dat.mono (w:=w) (fun k hk=>⟨hk,Below.heap_alloc w.drew _ _ hk.1⟩) hu2⟩
    rw [<-hu1]
    simp [<-Qq5])
  exact hmv.put (Qaj hn) (.own b us.length ⟨w.heap.size,_,i.size,[],0⟩ (Q8 _ _ _) hge)
 obtain⟨hBz,hrl,hok,cs,E,e1,e2,e3⟩:=hr.block hB hb
 have hle2:B.off+rs.length*i.size<=cs.size:=QbM (Nat.add_le_add_left (Qct _ hrl) _) e2
 have hol:((cs.toList.drop B.off).take (rs.length*i.size)).length=rs.length*i.size:=by simp;omega
 have hold:∀(k:Nat) r,rs[k]? = some r->∀(j:Nat) v,r[j]? = some v->∃u,((cs.toList.drop B.off).take (rs.length*i.size))[k*i.size+j]? = some u/\Dat (Imm C φ w) w u v:=fun k r hk j v hj=>by
  obtain⟨u,hu1,hu2⟩:=e3 k r hk j v hj
  have hkl:k<rs.length:=(QT.1 hk).1
  have hjz:j<i.size:=by have:=(QT.1 hj).1;rwa [(hok r (Qaa hk)).1]at this
  have hlt:k*i.size+j<rs.length*i.size:=by
   have:(k+1)*i.size<=rs.length*i.size:=Qct _ hkl
   rw [QcI]at this;omega
  exact⟨u,by rw [Qbx,if_pos hlt,QgA];simpa using hu1,hu2⟩
 by_cases hroom:rs.length+us.length<=B.cap
 ·
  have hfit:B.off+rs.length*i.size+news.length<=cs.size:=by
   refine QbM ?_ e2;rw [hnews,Qmd,<-QcI];exact Nat.add_le_add_left (Qct _ hroom) _
  have hrun:=Qww (P:=P) (ty:=o.type) hu hi B.b B.off rs.length B.cap cs e1 p us.length c news hnews hcells hone hroom hfit
  refine⟨_,_,φ,hexec _ _ _ _ _ h1 (by rw [hyv];exact hrun),?_⟩
  obtain⟨g1,g2⟩:=Qno (I:=Imm C φ w) (w:=w) (n:=rs.length) (rs:=rs) (olds:=(cs.toList.drop B.off).take (rs.length*i.size)) (rest:=cs.toList.drop (B.off+rs.length*i.size+news.length)) rfl
   hol hok hokU hnews hold hrowU
  have hne:∀k,Imm C φ w k->k≠B.b:=fun k hk e=>hk.2.2 b B hB (.inl e)
  have hwr:=hr.write (ob:=.arr i.size (rs++us)) (w':=w.setRow B.b (cs.toList.take (B.off+rs.length*i.size)++news++cs.toList.drop (B.off+rs.length*i.size+news.length)).toArray) hB rfl rfl rfl (by simp)
   (fun k hk=>setRow_other w B.b k _ hk) ⟨hBz,by simpa using hroom,g1,_,E,setRow_heap w B.b cs _ E _ e1,by simp;omega,fun k r hk j v hj=>by
    obtain⟨u,hu1,hu2⟩:=g2 k r hk j v hj
    refine⟨u,by rw [<-hu1];simp only [QiZ];rw [List.take_add,Qgb,Qgb,Qcf (by simp;omega)];congr 1;simp;omega,hu2.mono fun k hk=>⟨⟨by simpa using hk.1,hk.2⟩,setRow_other w B.b k _ (hne k hk)⟩⟩⟩
  have hre:=hwr.reset b (.arr i.size (rs++us)) ⟨_,St.look_set_same _ _ _⟩ (.inl ⟨B,hB,hwr.block hB (St.look_set_same _ _ _)⟩)
  rw [St.set_kill]at hre
  rw [hd]
  exact hre.put (Qaj hn) (.own b _ B hB hroom)
 
 have hoc:∀(j:Nat) v,((cs.toList.drop B.off).take (rs.length*i.size))[j]? = some v->w.cell? ((⟨B.b,B.off,none⟩:Addr).add j)=some v:=by
  intro j v hj
  rw [Qbx]at hj
  by_cases h:j<rs.length*i.size
  ·rw [if_pos h,QgA]at hj
   simp [Addr.add_lit,World.cell?,e1];simpa using hj
  rw [if_neg h]at hj;simp at hj
 have hrun:=run_append_grow (P:=P) w T o.type e i zv hu hi hz' ⟨B.b,B.off,none⟩ rs.length B.cap _ hol hoc p us.length c news hnews hcells (by omega) (by omega) (growslice_fits (by omega) hbytes)
 have hge:=grownCap_ge w (rs.length+us.length) B.cap e
 refine⟨_,_,ext (del φ b) b ⟨w.heap.size,grownCap w (rs.length+us.length) B.cap e,i.size,[],0⟩,hexec _ _ _ _ _ h1 (by rw [hyv];exact hrun),?_⟩
 obtain⟨g1,g2⟩:=Qno (I:=Imm C φ w) (w:=w) (n:=rs.length) (rs:=rs) (olds:=(cs.toList.drop B.off).take (rs.length*i.size))
  (rest:=(Builtin.zeroCells zv.cells (grownCap w (rs.length+us.length) B.cap e-(rs.length+us.length))).toList) rfl hol hok hokU hnews hold hrowU
 have hmv:=hr.moved (b:=b) (cap:=grownCap w (rs.length+us.length) B.cap e) (z:=i.size) (E:=e)
  (cells:=((cs.toList.drop B.off).take (rs.length*i.size)).toArray++news.toArray++Builtin.zeroCells zv.cells (grownCap w (rs.length+us.length) B.cap e-(rs.length+us.length))) (rs:=rs++us) hb2 _ rfl
  (Qba.mk0 rfl rfl (by simpa using hge) g1 _ e (heap_alloc_new w.drew _) (by
   simp only [Array.size_append,List.size_toArray,hol,hnews,size_zeroCells,hzs,<-QcI];congr 1;omega) fun k r hk j v hj=>by
   obtain⟨u,hu1,hu2⟩:=g2 k r hk j v hj
   refine⟨u,?_,Dat.mono (w:=w) (fun k hk=>⟨hk,Below.heap_alloc w.drew _ _ hk.1⟩) hu2⟩
   rw [<-hu1,<-Qq5]
   simp [Qgb])
 rw [hd]
 exact hmv.put (Qaj hn) (.own b _ ⟨w.heap.size,_,i.size,[],0⟩ (Q8 _ _ _) hge)
theorem Stp.appendB {T U d e e' z z' by_ by' b n m:Nat}{x y:Operand}{rs us rs':List (List V)}{zs:List V}(ho:o.op=.call { callee:=.builtin .append,args:=#[x,y],argTypes:=#[T,U] })
  (hd:o.dst=some d) (hn:Nat.ble (d+1) C.n=true) (hx:σ.opd x=some (.own b n)) (hb:look σ.hp b=some (.arr z rs)) (hb1:Nat.ble 616 b=false) (hnl:rs.length=n)
  (hT:Qav P T=some (e,z,by_)) (hU:Qav P U=some (e',z',by')) (hz:QaF P e=some zs) (hzl:zs.length=z) (hz0:z≠0) (hsm:n+us.length<=140737488355328) (hbytes:(n+us.length)*by_<=140737488355328)
  (hy:∀φ a w,RR C φ σ a w->QtF φ (Imm C φ w) w (a.eval y) z us) (he:rs++us=rs') (hm:n+us.length=m):Stp P C o σ (σ.app b z d m rs'):=
 Stp.val (Qwx ho hd hn hx hb hb1 hnl hT hU hz hzl hz0 hsm hbytes hy he hm)
theorem Stp.append {T U d e e' z z' by_ by' b n m:Nat}{x y:Operand}{rs us rs':List (List V)}{zs:List V}(ho:o.op=.call { callee:=.builtin .append,args:=#[x,y],argTypes:=#[T,U] })
  (hd:o.dst=some d) (hn:Nat.ble (d+1) C.n=true) (hx:σ.opd x=some (.own b n)) (hb:look σ.hp b=some (.arr z rs)) (hb1:Nat.ble 616 b=false) (hnl:rs.length=n)
  (hT:Qav P T=some (e,z,by_)) (hU:Qav P U=some (e',z',by')) (hz:QaF P e=some zs) (hzl:zs.length=z) (hz0:z≠0) (hby:by_<=32768) (hsm:n+us.length<=4294967296)
  (hy:∀φ a w,RR C φ σ a w->QtF φ (Imm C φ w) w (a.eval y) z us) (he:rs++us=rs') (hm:n+us.length=m):Stp P C o σ (σ.app b z d m rs'):=
 Stp.val (Qwx ho hd hn hx hb hb1 hnl hT hU hz hzl hz0 (QbM hsm (by decide)) (QbM (Nat.mul_le_mul hsm hby) (by decide)) hy he hm)
end
end Go.Vm
namespace Go.Vm
open Go Go.RowKit
structure Ins (S:Nat->Prop) (φ:Nat->Option Blk) (w:World) (vals:Array Value) (args:List V) (hs:List (Nat×Ob)):Prop where
 lt:∀k,S k->k<w.heap.size
 inj:∀o o' B B' k,φ o=some B->φ o'=some B'->B.has k->B'.has k->o=o'
 dom:∀o B,φ o=some B->614<=o/\(∀k,B.has k->k<w.heap.size/\¬S k)/\∃ob,look hs o=some ob
 size:vals.size=args.length
 args:∀(j:Nat) x v,vals[j]? = some x->args[j]? = some v->Rep φ S w x v
 heap:∀o ob,look hs o=some ob->(∃B,φ o=some B/\QbN φ S w B ob)\/(φ o=none/\ob.Nil)
def Aft (S:Nat->Prop)(φ:Nat->Option Blk)(w w':World)(k:Nat):Prop:=k<w'.heap.size/\(k<w.heap.size->S k)/\∀o B,φ o=some B->¬B.has k
structure Outs (S:Nat->Prop) (φ:Nat->Option Blk) (w:World) (φ':Nat->Option Blk) (w':World) (x:Value) (v:V) (hs:List (Nat×Ob)):Prop where
 os:w'.os=w.os
 tape:w'.tape=w.tape
 output:w'.output=w.output
 size:w.heap.size<=w'.heap.size
 kept:∀k,k<w.heap.size->(∀o B,φ o=some B->¬B.has k)->w'.heap[k]? = w.heap[k]?
 inj:∀o o' B B' k,φ' o=some B->φ' o'=some B'->B.has k->B'.has k->o=o'
 dom:∀o B,φ' o=some B->∃ob,look hs o=some ob
 lt:∀o B k,φ' o=some B->B.has k->k<w'.heap.size/\(k<w.heap.size->∃o' B',φ o'=some B'/\B'.has k)
 new:∀o B k,φ' o=some B->B.has k->o<614->w.heap.size<=k
 stay:Qqp φ φ' hs
 rep:Rep φ' (Aft S φ' w w') w' x v
 heap:∀o ob,look hs o=some ob->(∃B,φ' o=some B/\QbN φ' (Aft S φ' w w') w' B ob)\/(φ' o=none/\ob.Nil)
def QCJ (P:Program):Option Nat:=P.globalNamed "strings.asciiSpace"
def QmY (P:Program)(S:Nat->Prop)(w:World):Prop:=∀g,QCJ P=some g->S g/\g<w.heap.size/\∀c:Nat,c<256->w.cell? ⟨g,c,none⟩=some (.int .u8 (if Lib.isSp (UInt8.ofNat c)then 1 else 0))
theorem QmY.mono {P:Program}{S S':Nat->Prop}{w:World}(h:QmY P S w)(hs:∀k,S k->S' k):QmY P S' w:=fun g hg=>let ⟨a,b⟩:=h g hg;⟨hs g a,b⟩
def Ctx.pg (C:Ctx)(P:Program):Prop:=QmY P C.S C.w0/\∀g,QCJ P=some g->¬C.W g
structure Qdb (P:Program) (C:Ctx) (n:Nat):Prop where
 n:C.n=n
 g:C.pg P
theorem QR {n m d:Nat}(h:m=n)(e:Nat.ble (d+1) n=true):Nat.ble (d+1) m=true:=h▸e
theorem RR.glob {P:Program}{C:Ctx}{φ:Nat->Option Blk}{σ:St}{a:Act}{w:World}(hr:RR C φ σ a w)(hg:C.pg P):QmY P (Imm C φ w) w:=fun g h=>by
 obtain⟨s,l,c⟩:=hg.1 g h
 have nW:=hg.2 g h
 refine⟨⟨Qg8 l hr.size,fun _=>s,fun o B hB hb=>nW ((hr.lt o B g hB hb).2 l)⟩,Qg8 l hr.size,fun i hi=>?_⟩
 rw [World.cell?_of_block (hr.kept g l nW)]
 exact c i hi
def Qc (P:Program)(f:FuncId)(args:List V)(hs:List (Nat×Ob))(post:V->List (Nat×Ob)->Prop):Prop:=
 ∀(S:Nat->Prop) (φ:Nat->Option Blk) (w:World) (vals:Array Value),Ins S φ w vals args hs->QmY P S w->
  Calls P f vals w fun e w'=>∃x v hs' φ',e=.returned x/\post v hs'/\Outs S φ w φ' w' x v hs'
def Qai (β:Nat)(P:Program)(f:FuncId)(args:List V)(hs:List (Nat×Ob))(post:V->List (Nat×Ob)->Prop):Prop:=
 ∀(S:Nat->Prop) (φ:Nat->Option Blk) (w:World) (vals:Array Value),β<=w.heap.size->Ins S φ w vals args hs->QmY P S w->
  Calls P f vals w fun e w'=>∃x v hs' φ',e=.returned x/\post v hs'/\Outs S φ w φ' w' x v hs'
theorem Qc.b {P:Program}{f:FuncId}{args:List V}{hs:List (Nat×Ob)}{post:V->List (Nat×Ob)->Prop}{β:Nat}(h:Qc P f args hs post):Qai β P f args hs post:=fun S φ w vals _=>h S φ w vals
theorem Qai.a {P:Program}{f:FuncId}{args:List V}{hs:List (Nat×Ob)}{post:V->List (Nat×Ob)->Prop}(h:Qai 0 P f args hs post):Qc P f args hs post:=fun S φ w vals=>h S φ w vals (Qnl _)
theorem Qai.mono {P:Program}{f:FuncId}{args:List V}{hs:List (Nat×Ob)}{post post':V->List (Nat×Ob)->Prop}{β:Nat}(h:Qai β P f args hs post)(hp:∀v hs,post v hs->post' v hs):Qai β P f args hs post':=
 fun S φ w vals hβ hi hG=>(h S φ w vals hβ hi hG).mono fun _ _ ⟨x,v,hs',φ',h1,h2,h3⟩=>⟨x,v,hs',φ',h1,hp v hs' h2,h3⟩
theorem Qc.mono {P:Program}{f:FuncId}{args:List V}{hs:List (Nat×Ob)}{post post':V->List (Nat×Ob)->Prop}(h:Qc P f args hs post)(hp:∀v hs,post v hs->post' v hs):Qc P f args hs post':=
 fun S φ w vals hi hG=>(h S φ w vals hi hG).mono fun _ _ ⟨x,v,hs',φ',h1,h2,h3⟩=>⟨x,v,hs',φ',h1,hp v hs' h2,h3⟩
def QkR : Nat->List V->List (Nat×V)
 | _,[]=>[]
 | k,v::r=>(k,v)::QkR (k+1) r
theorem QtG : ∀(l:List V) (k t:Nat) (v:V),look (QkR k l) t=some v->k<=t/\l[t-k]? = some v:=by
 intro l
 induction l with
 | nil=>intro k t v h;cases h
 | cons u l ih=>
  intro k t v h
  by_cases e:k=t
  ·subst e;rw [QkR,Qv]at h;cases h;simp
  rw [QkR,Qr _ _ e]at h
  obtain⟨h1,h2⟩:=ih (k+1) t v h
  refine⟨by omega,?_⟩
  rw [show t-k=(t-(k+1))+1 by omega];simpa using h2
def Res (P:Program)(σ:St):List ResultVar->List V->Prop
 | [],[]=>True
 | .tmp t::r,v::vs=>look σ.fr t=some v/\Res P σ r vs
 | .cell p T::r,v::vs=>(∃b cs,look σ.fr p=some (.loc b 0 0)/\look σ.hp b=some (.var cs)/\((Qgp P T=some true/\QgC P T=some cs.length/\v=.agg cs)\/(Qgp P T=some false/\cs=[v])))/\Res P σ r vs
 | _,_=>False
def Qxs : List V->V
 | [v]=>v
 | vs=>.tup vs
def Qsj (P:Program)(rv:List ResultVar)(post:V->List (Nat×Ob)->Prop):Exit->St->Prop
 | .normal,σ=>∃vs,Res P σ rv vs/\post (Qxs vs) σ.hp
 | .ret,σ=>∃vs,Res P σ rv vs/\post (Qxs vs) σ.hp
 | _,_=>False
def QlL (tmps:Array Value):ResultVar->Sem Value
 | .tmp t=>pure (tmps.getD t undef)
 | .cell a t=>do loadVar t (<-asAddr (tmps.getD a undef))
section
variable {P:Program}{C:Ctx}{φ:Nat->Option Blk}{σ:St}{a:Act}{w:World}
theorem RR.resList (hr:RR C φ σ a w):∀(rv:List ResultVar) (vs:List V),Res P σ rv vs->
  ∃xs:List Value,(rv.mapM (QlL a.tmps)).run P w=.ok xs w/\xs.length=vs.length/\∀(j:Nat) x v,xs[j]? = some x->vs[j]? = some v->Rep φ (Imm C φ w) w x v:=by
 intro rv
 induction rv with
 | nil=>
  intro vs h
  cases vs with
  | nil=>exact⟨[],rfl,rfl,by simp⟩
  | cons=>cases h
 | cons r rv ih=>
  intro vs h
  cases vs with
  | nil=>cases r<;>cases h
  | cons v vs=>
   have key:∃x,(QlL a.tmps r).run P w=.ok x w/\Rep φ (Imm C φ w) w x v/\Res P σ rv vs:=by
    cases r with
    | tmp t=>
     obtain⟨h1,h2⟩:=h
     obtain⟨x,hx,hrep⟩:=hr.frame t v h1
     exact⟨x,by simp [QlL,Qo0,hx],hrep,h2⟩
    | cell p T=>
     obtain⟨⟨b,cs,h1,h2,h3⟩,h4⟩:=h
     obtain⟨x,hx,hrep⟩:=hr.frame p _ h1
     obtain⟨B,hB,rfl⟩:=hrep.loc_inv
     obtain⟨xs,E,e1,e2,e0,e3⟩:=hr.block hB h2
     have hread:∀y,(Instr.loadAt T (.pointer (some ⟨B.b,B.off+(0*B.z+0),none⟩))).run P w=.ok y w->(QlL a.tmps (.cell p T)).run P w=.ok y w:=by
      intro y hy
      simp only [QlL,Qo0,hx,Option.getD_some,asAddr,Sem.run_bind,Sem.run_pure,Result.andThen_ok]
      simpa only [Instr.loadAt,Instr.sureAddr,Sem.run_bind,Sem.run_pure,Result.andThen_ok] using hy
     rcases h3 with⟨g1,g2,rfl⟩|⟨g1,rfl⟩
     ·have hc:∀j,j<cs.length->w.cell? ((⟨B.b,B.off+(0*B.z+0),none⟩:Addr).add j)=some (xs.getD j undef):=by
       intro j hj
       have:j<xs.size:=by omega
       simp [Addr.add_lit,World.cell?,e1,Array.getD,this,e0]
      refine⟨_,hread _ (Qnm _ g1 g2 hc),.agg _ _ (by simp) fun j y u hy hu=>?_,h4⟩
      simp only [QiZ,Qak,Qas,QT,QuJ,QuI]at hy
      obtain⟨_,⟨hj,rfl⟩,rfl⟩:=hy
      have hlt:j<xs.size:=by omega
      exact e3 j _ u (by simp [Array.getD,hlt]) hu
     have hlt:0<xs.size:=by rw [e2];simp
     exact⟨xs[0],hread _ (QiH g1 (by simp [World.cell?,e1,hlt,e0])),e3 0 _ _ (QeA hlt) rfl,h4⟩
   obtain⟨x,h1,h2,h3⟩:=key
   obtain⟨xs,h4,h5,h6⟩:=ih vs h3
   refine⟨x::xs,by rw [List.mapM_cons];simp only [Sem.run_bind,h1,Result.andThen_ok,h4,Sem.run_pure],by simp [h5],fun j y u hy hu=>?_⟩
   cases j with
   | zero=>simp at hy hu;subst hy;subst hu;exact h2
   | succ j=>exact h6 j y u hy hu
theorem RR.result (hr:RR C φ σ a w){fn:Func}{vs:List V}(h:Res P σ fn.results.toList vs):∃x,(results fn a.tmps).run P w=.ok x w/\Rep φ (Imm C φ w) w x (Qxs vs):=by
 obtain⟨xs,h1,h2,h3⟩:=hr.resList fn.results.toList vs h
 have hm:(fn.results.mapM (QlL a.tmps)).run P w=.ok xs.toArray w:=by
  rw [Array.mapM_eq_mapM_toList,Sem.run_map,h1];rfl
 have hres:(results fn a.tmps).run P w=.ok (if h:xs.toArray.size=1 then xs.toArray[0]else .tuple xs.toArray) w:=by
  have:results fn a.tmps=(do
    let vs <-fn.results.mapM (QlL a.tmps)
    pure (if h:vs.size=1 then vs[0]else .tuple vs)):=by
   unfold results
   congr 1
  rw [this]
  simp only [Sem.run_bind,hm,Result.andThen_ok,Sem.run_pure]
 refine⟨_,hres,?_⟩
 by_cases h1':xs.toArray.size=1
 ·rw [dif_pos h1']
  have:∃v,vs=[v]:=List.length_eq_one_iff.1 (by rw [<-h2];simpa using h1')
  obtain⟨v,rfl⟩:=this
  have hl:0<xs.length:=by rw [h2];simp
  refine h3 0 _ v ?_ rfl
  simp [QG hl]
 rw [dif_neg h1']
 have:Qxs vs=.tup vs:=by
  cases vs with
  | nil=>rfl
  | cons v vs=>cases vs with
   | nil=>exact absurd (by simpa using h2) h1'
   | cons=>rfl
 rw [this]
 exact .tup _ _ (by simpa using h2) fun j x v hx hv=>h3 j x v (by simpa using hx) hv
theorem RR.unmark {ts:Array Value}{Ds:List Nat}{D:Nat}(hn:(D::Ds).Nodup)(hm:∀D'∈D::Ds,C.w0.heap.size<=D'/\Imm C φ w D'/\w.heap[D']? = some (.deferred (some [])))
  {ds:List Deferred} (hr:RR C φ σ ⟨ts,ds⟩ w):RR C φ σ ⟨ts,Ds.map (fun D=>{ target:=.collected D,args:=#[] })⟩ (w.putObj D (.deferred none)):=by
 obtain⟨hD0,hD1,hD2⟩:=hm D Qbz
 have ho:∀k,k≠D->(w.putObj D (.deferred none)).heap[k]? = w.heap[k]? := fun k hk=>World.putObj_heap_other hk
 have hsz:(w.putObj D (.deferred none)).heap.size=w.heap.size:=World.putObj_size
 have hI:∀k,Imm C φ w k->Imm C φ (w.putObj D (.deferred none)) k/\Kp w (w.putObj D (.deferred none)) k:=fun k hk=>by
  refine⟨⟨by rw [hsz];exact hk.1,hk.2⟩,?_⟩
  by_cases e:k=D
  ·subst e
   refine⟨fun i=>?_,fun cs E h=>?_⟩
   ·simp only [World.cell?,World.putObj_heap_same hD1.1,hD2]
   rw [hD2]at h;cases h
  exact Kp.of (ho k e)
 have hob:∀o B k,φ o=some B->B.has k->(w.putObj D (.deferred none)).heap[k]? = w.heap[k]? := fun o B k hB hk=>ho k fun e=>hD1.2.2 o B hB (e▸hk)
 refine⟨hr.os,hr.tape,hr.output,by rw [hsz];exact hr.size,fun k h1 h2=>(ho k (by omega)).trans (hr.kept k h1 h2),hr.inj,hr.dom,fun o B k hB hk=>by rw [hsz];exact hr.lt o B k hB hk,hr.new,hr.stay,hr.tmps,
  ⟨Ds,rfl,(Qlp.1 hn).2,fun D' hD'=>?_⟩,fun t v hv=>?_,fun o ob hob'=>?_⟩
 ·obtain⟨a1,a2,a3⟩:=hm D' (Qb1 _ hD')
  exact⟨a1,⟨by rw [hsz];exact a2.1,a2.2⟩,(ho D' fun e=>(Qlp.1 hn).1 (e▸hD')).trans a3⟩
 ·obtain⟨x,hx,hrep⟩:=hr.frame t v hv
  exact⟨x,hx,hrep.monoC (fun _ _ h=>h) hI⟩
 rcases hr.heap o ob hob' with⟨B,hB,hrep⟩|hn
 ·exact .inl ⟨B,hB,hrep.monoC (fun _ _ h=>h) hI (fun k hk=>hob o B k hB hk)⟩
 exact .inr hn
theorem Qai.enter {β:Nat}{f:FuncId}{fn:Func}{c:Code}{n:Nat}{args:List V}{hs:List (Nat×Ob)}{post:V->List (Nat×Ob)->Prop}(hf:P.funcs[f]? = some fn)(hb:fn.body=some c)(hn:fn.ntmps=n)
  (hle:Nat.ble args.length n=true) (hsm:Nat.ble n 616=true) (h:∀C:Ctx,Qdb P C n->C.rnd=none->β<=C.w0.heap.size->AWp P C c ⟨QkR 0 args,hs⟩ (Qsj P fn.results.toList post)):Qai β P f args hs post:=by
 intro S φ w vals hβ hi hG
 have hle:=QbV hle
 refine(callsIn_wide (n:=0)).1 (callsIn_of_wp_marks hf hb trivial ?_)
 let C:Ctx:=⟨w,S,fun k=>∃o B,φ o=some B/\B.has k,n,φ,QbV hsm,none⟩
 have hI:∀k,S k->Imm C φ w k/\w.heap[k]? = w.heap[k]? := fun k hk=>⟨⟨hi.lt k hk,fun _=>hk,fun o B hB e=>((hi.dom o B hB).2.1 k e).2 hk⟩,rfl⟩
 have hR:R C ⟨QkR 0 args,hs⟩ { tmps:=vals++Array.replicate (fn.ntmps-vals.size) undef,defers:=[] } w:=by
  refine⟨φ,rfl,rfl,rfl,Qb2 _,fun _ _ _=>rfl,hi.inj,fun o B hB=>(hi.dom o B hB).2.2,fun o B k hB hk=>⟨((hi.dom o B hB).2.1 k hk).1,fun _=>⟨o,B,hB,hk⟩⟩,fun o B k hB hk hlt=>absurd (hi.dom o B hB).1 (by omega),⟨fun _ _ _ h=>h,fun _ _ _ _ _ h=>h⟩,
   by simp [hi.size,hn];show _=n;omega,⟨[],rfl,List.nodup_nil,fun _ h=>by cases h⟩,fun t v hv=>?_,fun o ob hob=>?_⟩
  ·obtain⟨_,h2⟩:=QtG args 0 t v hv
   rw [Nat.sub_zero]at h2
   have hlt:t<vals.size:=by rw [hi.size];exact(QT.1 h2).1
   refine⟨vals[t],?_,(hi.args t _ v (QeA hlt) h2).mono (fun _ _ h=>h) hI⟩
   simp [Array.getElem?_append,hlt]
  rcases hi.heap o ob hob with⟨B,hB,hr⟩|hn
  ·exact .inl ⟨B,hB,hr.mono (fun _ _ h=>h) hI fun _ _=>rfl⟩
  exact .inr hn
 have hok:Qdb P C n:=⟨rfl,hG,fun g hg ⟨o,B,hB,hb⟩=>((hi.dom o B hB).2.1 g hb).2 (hG g hg).1⟩
 refine wpIn_mono (h C hok rfl hβ _ _ hR) ?_
 rintro e a' w' ⟨σ',hq,φ',hr⟩
 have done:(∃vs,Res P σ' fn.results.toList vs/\post (Qxs vs) σ'.hp)->LeavesInM Fence.wide 0 P fn a'.tmps (fun e w'=>∃x v hs' φ',e=.returned x/\post v hs'/\Outs S φ w φ' w' x v hs') a'.defers .returning w':=by
  rintro ⟨vs,h1,h2⟩
  obtain⟨Ds,hds,hnd,hm⟩:=hr.defers
  obtain⟨ts,ds⟩:=a'
  simp only at hds
  subst hds
  simp only
  revert w'
  induction Ds with
  | nil=>
   intro w' hm hr
   obtain⟨x,h3,h4⟩:=hr.result (P:=P) h1
   exact⟨x,h3,x,Qxs vs,σ'.hp,φ',rfl,h2,hr.os,hr.tape,hr.output,hr.size,fun k hk hne=>hr.kept k hk (fun ⟨o,B,hB,e⟩=>hne o B hB e),hr.inj,hr.dom,
    fun o B k hB hk=>⟨(hr.lt o B k hB hk).1,fun hlt=>(hr.lt o B k hB hk).2 hlt⟩,hr.new,hr.stay,h4,hr.heap⟩
  | cons D Ds ih=>
   intro w' hm hr
   refine⟨by simp,.inl ⟨D,w'.putObj D (.deferred none),rfl,run_takeDeferred (hm D Qbz).2.2,?_⟩⟩
   have hr':=hr.unmark hnd hm
   obtain⟨Ds',e1,e2,e3⟩:=hr'.defers
   refine ih (Qlp.1 hnd).2 _ ?_ hr'
   have:Ds'=Ds:=by
    have inj:∀(l l':List Nat),l.map (fun D=>({ target:=.collected D,args:=#[] }:Deferred))=l'.map (fun D=>{ target:=.collected D,args:=#[] })->l=l':=by
     intro l
     induction l with
     | nil=>intro l' h;cases l' with
      | nil=>rfl
      | cons=>cases h
     | cons x l ih=>intro l' h;cases l' with
      | nil=>cases h
      | cons y l'=>simp only [Qgc,List.cons.injEq,Deferred.mk.injEq]at h;injection h.1.1 with h1;rw [h1,ih l' h.2]
    exact(inj _ _ e1).symm
   rw [<-this];exact e3
 cases e with
 | normal=>exact done hq
 | ret=>exact done hq
 | _=>exact hq.elim
theorem Qc.enter {f:FuncId}{fn:Func}{c:Code}{n:Nat}{args:List V}{hs:List (Nat×Ob)}{post:V->List (Nat×Ob)->Prop}(hf:P.funcs[f]? = some fn)(hb:fn.body=some c)(hn:fn.ntmps=n)
  (hle:Nat.ble args.length n=true) (hsm:Nat.ble n 616=true) (h:∀C:Ctx,Qdb P C n->C.rnd=none->AWp P C c ⟨QkR 0 args,hs⟩ (Qsj P fn.results.toList post)):Qc P f args hs post:=
 (Qai.enter hf hb hn hle hsm fun C h1 h2 _=>h C h1 h2).a
end
end Go.Vm
namespace Go.Vm
open Go Go.RowKit
def V.datC : V->Bool
 | .agg cs=>cs.all V.dat
 | v=>v.dat
def V.datA : V->Bool
 | .tup cs=>cs.all V.datC
 | v=>v.datC
def V.sca : V->Bool
 | .b _=>true
 | .i _ _=>true
 | .s _=>true
 | .J=>true
 | .lit _=>true
 | _=>false
def V.scaC : V->Bool
 | .agg cs=>cs.all V.sca
 | v=>v.sca
def V.scaA : V->Bool
 | .tup cs=>cs.all V.scaC
 | v=>v.scaC
section
variable {φ φ':Nat->Option Blk}{I I':Nat->Prop}{w w':World}{x:Value}{v:V}
theorem Rep.datC (h:Rep φ I w x v)(hv:v.datC=true)(hI:∀k,I k->I' k/\w'.heap[k]? = w.heap[k]?):Rep φ' I' w' x v:=by
 cases v with
 | agg cs=>
  obtain⟨xs,rfl,hs,hr⟩:=h.agg_inv
  rw [V.datC,Qad]at hv
  exact .agg xs cs hs fun j x v hx hv'=>.dat (((hr j x v hx hv').toDat (hv v (Qaa hv'))).mono hI)
 | _=>exact .dat ((h.toDat hv).mono hI)
theorem Rep.datA (h:Rep φ I w x v)(hv:v.datA=true)(hI:∀k,I k->I' k/\w'.heap[k]? = w.heap[k]?):Rep φ' I' w' x v:=by
 cases v with
 | tup cs=>
  obtain⟨xs,rfl,hs,hr⟩:=h.tup_inv
  rw [V.datA,Qad]at hv
  exact .tup xs cs hs fun j x v hx hv'=>(hr j x v hx hv').datC (hv v (Qaa hv')) hI
 | _=>exact h.datC hv hI
theorem Rep.sca (h:Rep φ I w x v)(hv:v.sca=true):Rep φ' I' w' x v:=by
 cases v with
 | b y=>rw [h.b_inv];exact .dat (.b _)
 | i k n=>rw [h.i_inv];exact .dat (.i _ _)
 | s y=>rw [h.s_inv];exact .dat (.s _)
 | lit y=>rw [h.lit_inv];exact .dat (.lit _)
 | J=>exact .dat (.J _)
 | _=>simp [V.sca]at hv
theorem Dat.sca (h:Dat I w x v)(hv:v.sca=true):Dat I' w' x v:=by
 cases v with
 | b y=>cases h;exact .b _
 | i k n=>cases h;exact .i _ _
 | s y=>cases h;exact .s _
 | lit y=>cases h;exact .lit _
 | J=>exact .J _
 | _=>simp [V.sca]at hv
theorem Rep.scaC (h:Rep φ I w x v)(hv:v.scaC=true):Rep φ' I' w' x v:=by
 cases v with
 | agg cs=>
  obtain⟨xs,rfl,hs,hr⟩:=h.agg_inv
  rw [V.scaC,Qad]at hv
  exact .agg xs cs hs fun j x v hx hv'=>(hr j x v hx hv').sca (hv v (Qaa hv'))
 | _=>exact h.sca hv
theorem Rep.scaA (h:Rep φ I w x v)(hv:v.scaA=true):Rep φ' I' w' x v:=by
 cases v with
 | tup cs=>
  obtain⟨xs,rfl,hs,hr⟩:=h.tup_inv
  rw [V.scaA,Qad]at hv
  exact .tup xs cs hs fun j x v hx hv'=>(hr j x v hx hv').scaC (hv v (Qaa hv'))
 | _=>exact h.scaC hv
end
inductive QmZ (hp:List (Nat×Ob)) (g:Bool):V->V->Prop where
 | dat (v:V):v.datA=true->QmZ hp g v v
 | nil (z:Nat):QmZ hp g (.lit (.slice none 0 0)) (.sl z [])
 | own (b n z:Nat) (rs us:List (List V)):g=true->look hp b=some (.arr z rs)->n<=rs.length->rs.take n=us->QmZ hp g (.own b n) (.sl z us)
 | nst (b:Nat) (x:Value) (v:V):g=true->look hp b=some (.nst x v)->QmZ hp g (.lit x) v
 | agg (cs us:List V):cs.length=us.length->(∀(j:Nat) c u,cs[j]? = some c->us[j]? = some u->QmZ hp g c u)->QmZ hp g (.agg cs) (.agg us)
 | clo (fn:Fn):QmZ hp g (.clo fn [] []) (.clo fn [] [])
def QyN (C:Ctx)(φ:Nat->Option Blk)(w:World)(g:Bool)(k:Nat):Prop:=Imm C φ w k\/(g=true/\∃o B,φ o=some B/\B.has k)
section
variable {P:Program}{C:Ctx}{φ:Nat->Option Blk}{σ:St}{a:Act}{w:World}{o:Oper}
theorem QmZ.sound {g:Bool}{v u:V}(hr:RR C φ σ a w)(h:QmZ σ.hp g v u):∀{x:Value},Rep φ (Imm C φ w) w x v->Rep (fun _=>none) (QyN C φ w g) w x u:=by
 induction h with
 | dat v hv=>exact fun hx=>hx.datA hv fun k hk=>⟨.inl hk,rfl⟩
 | nil z=>intro x hx;rw [hx.lit_inv];exact .dat (.sl0 _ _ _)
 | own b n z rs us hg hb hle hu=>
  intro x hx
  subst hu
  rcases hx.own_inv with⟨rfl,rfl⟩|⟨B,hB,hcap,rfl⟩
  ·simp only [Qsb];exact .dat (.sl0 _ _ _)
  obtain⟨rfl,hrl,hok,cs,E,h1,h2,h3⟩:=hr.block hB hb
  refine .dat (.sl B.b B.off n B.cap B.z _ (fun j=>cs.getD (B.off+j) undef) (.inr ⟨hg,b,B,hB,B.self⟩) (by simp;omega) hcap (fun r hr'=>hok r (QeQ hr')) (fun j hj=>?_) (fun i r hi j v hj=>?_))
  ·have hle2:n*B.z<=B.cap*B.z:=Qct _ hcap
   have:B.off+j<cs.size:=by omega
   simp [World.cell?,h1,Array.getD,this]
  have hi':rs[i]? = some r:=by
   rw [Qbx]at hi
   by_cases hin:i<n
   ·rwa [if_pos hin]at hi
   rw [if_neg hin]at hi;simp at hi
  obtain⟨y,hy,hd⟩:=h3 i r hi' j v hj
  have:cs.getD (B.off+(i*B.z+j)) undef=y:=by simp [Qo0,hy]
  rw [this]
  exact hd.mono fun k hk=>⟨.inl hk,rfl⟩
 | nst b x v hg hb=>
  intro y hy
  rw [hy.lit_inv]
  rcases hr.heap b _ hb with⟨B,hB,hd⟩|⟨_,hn⟩
  ·exact .dat (Dat.mono (fun k hk=>⟨.inr ⟨hg,b,B,hB,hk⟩,rfl⟩) hd.1)
  exact .dat (Dat.mono (fun k hk=>hk.elim) (hn w))
 | agg cs us hl _ ih=>
  intro x hx
  obtain⟨xs,rfl,hs,hc⟩:=hx.agg_inv
  refine .agg xs us (by omega) fun j y u hy hu=>?_
  have hj:j<cs.length:=by rw [<-hs];exact(Qhr.1 hy).1
  exact ih j cs[j] u (QG hj) hu (hc j y _ hy (QG hj))
 | clo fn=>
  intro x hx
  cases hx with
  | dat d=>cases d
  | clo _ xs ys _ _ h1 h2 _ _=>exact .clo fn xs ys [] [] h1 h2 (fun j y v _ h=>by simp at h) fun j y v _ h=>by simp at h
def St.opsV (σ:St):List Operand->Option (List V)
 | []=>some []
 | x::r=>match σ.opd x,σ.opsV r with
  | some v,some vs=>some (v::vs)
  | _,_=>none
theorem RR.opsV (hr:RR C φ σ a w):∀(xs:List Operand) (vs:List V),σ.opsV xs=some vs->xs.length=vs.length/\∀(j:Nat) x v,xs[j]? = some x->vs[j]? = some v->Rep φ (Imm C φ w) w (a.eval x) v:=by
 intro xs
 induction xs with
 | nil=>intro vs h;simp only [St.opsV,Option.some.injEq]at h;subst h;simp
 | cons x xs ih=>
  intro vs h
  simp only [St.opsV]at h
  split at h
  ·rename_i v vs' hv hvs
   cases h
   obtain⟨h1,h2⟩:=ih vs' hvs
   refine⟨by simp [h1],fun j y u hy hu=>?_⟩
   cases j with
   | zero=>simp at hy hu;subst hy;subst hu;exact hr.opd hv
   | succ j=>exact h2 j y u hy hu
  cases h
inductive Qls (hp:List (Nat×Ob)) (g:Bool):List V->List V->Prop where
 | nil:Qls hp g [] []
 | cons {v u:V} {vs us:List V}:QmZ hp g v u->Qls hp g vs us->Qls hp g (v::vs) (u::us)
theorem Qls.get {hp:List (Nat×Ob)}{g:Bool}:∀{vs us:List V},Qls hp g vs us->vs.length=us.length/\∀(j:Nat) v u,vs[j]? = some v->us[j]? = some u->QmZ hp g v u:=by
 intro vs us h
 induction h with
 | nil=>simp
 | cons h1 _ ih=>
  refine⟨by simp [ih.1],fun j v u hv hu=>?_⟩
  cases j with
  | zero=>simp at hv hu;subst hv;subst hu;exact h1
  | succ j=>exact ih.2 j v u hv hu
def Qq8 (P:Program)(f:FuncId):Bool:=match P.funcs[f]? with
 | some fn=>!(fn.name == "runtime.NumGoroutine")&&fn.body.isSome
 | none=>false
theorem Qhs {f:FuncId}{args:Array Value}(h:Qq8 P f=true):(callFunc f args).run P w=.ok (.enter f args) w:=by
 unfold Qq8 at h
 split at h
 ·rename_i fn hf
  rw [QB]at h
  have h1:(fn.name == "runtime.NumGoroutine")=false:=by simpa using h.1
  have h2:fn.body.isNone=false:=by
   cases hb:fn.body with
   | none=>rw [hb]at h;simp at h
   | some=>rfl
  simp only [callFunc,Sem.run_bind,run_program,Result.andThen_ok,hf,h1,h2]
  rfl
 cases h
theorem RR.called {g:Bool}{φ':Nat->Option Blk}{w':World}{x:Value}{v:V}{hs:List (Nat×Ob)}(hr:RR C φ σ a w)(ho:Outs (QyN C φ w g) (fun _=>none) w φ' w' x v hs):RR C φ σ a w':=
 hr.step ho.os ho.tape ho.output ho.size fun k hk=>ho.kept k hk fun _ _ h=>by simp at h
theorem Aft.imm {φ':Nat->Option Blk}{w':World}(hr:RR C φ σ a w){k:Nat}(hk:Aft (QyN C φ w false) φ' w w' k):Imm C φ w' k:=by
 obtain⟨h1,h2,h3⟩:=hk
 by_cases h:k<w.heap.size
 ·rcases h2 h with hI | ⟨h,_⟩
  ·exact⟨h1,hI.2.1,hI.2.2⟩
  cases h
 exact⟨h1,fun hlt=>absurd hr.size (by omega),fun o B hB e=>by have:=(hr.lt o B k hB e).1;omega⟩
def Qbb (P:Program)(C:Ctx)(o:Oper)(σ:St)(f:FuncId)(vs:List V):Prop:=
 ∀φ a w,RR C φ σ a w->∃vals:List Value,(execOp a.eval o).run P w=.ok (.enter f vals.toArray) w/\vals.length=vs.length/\
  ∀(j:Nat) x v,vals[j]? = some x->vs[j]? = some v->Rep φ (Imm C φ w) w x v
theorem Ins.of_viewsE {g:Bool}{vs us:List V}{vals:List Value}(hr:RR C φ σ a w)(h1:vals.length=vs.length)(h2:∀(j:Nat) x v,vals[j]? = some x->vs[j]? = some v->Rep φ (Imm C φ w) w x v)(hv:Qls σ.hp g vs us):
  Ins (QyN C φ w g) (fun _=>none) w vals.toArray us []:=by
 obtain⟨h3,h4⟩:=hv.get
 refine⟨fun k hk=>?_,fun _ _ _ _ _ h=>(by cases h),fun _ _ h=>(by cases h),by simp;omega,fun j x u hx hu=>?_,fun _ _ h=>(by cases h)⟩
 ·rcases hk with hk | ⟨_,o,B,hB,hk⟩
  ·exact hk.1
  exact(hr.lt o B k hB hk).1
 have hx:vals[j]? = some x:=by simpa using hx
 have hlt:j<vs.length:=by rw [h3];exact(QT.1 hu).1
 exact QmZ.sound hr (h4 j vs[j] u (QG hlt) hu) (h2 j x _ hx (QG hlt))
theorem Stp.callEB {β:Nat}(hβ:β<=C.w0.heap.size){f:FuncId}{d:Nat}{g:Bool}{vs us:List V}{r:V}(hE:Qbb P C o σ f vs)(hd:o.dst=some d)
  (hn:Nat.ble (d+1) C.n=true) (hpg:C.pg P) (hv:Qls σ.hp g vs us) (hc:Qai β P f us [] fun v _=>v=r) (hres:(g=false/\r.datA=true)\/r.scaA=true):
  Stp P C o σ (σ.put d r):=by
 intro a w ⟨φ,hr⟩ next Q hnext
 refine⟨fun _ _=>trivial,?_⟩
 obtain⟨vals,hex,g1,g2⟩:=hE φ a w hr
 rw [Qrs hex,Oper.uponIn_enter]
 refine⟨(fun h=>by cases h),Qo5 ((hc _ _ w _ (QbM hβ hr.size) (Ins.of_viewsE hr g1 g2 hv) ((hr.glob hpg).mono fun _ h=>.inl h)).mono ?_)⟩
 rintro e w' ⟨x,v,hs',φ',rfl,rfl,hout⟩
 refine hnext _ _ ⟨φ,?_⟩
 rw [hd]
 refine(hr.called hout).put (Qaj hn) ?_
 rcases hres with⟨rfl,hdat⟩|hsca
 ·exact hout.rep.datA hdat fun k hk=>⟨Aft.imm hr hk,rfl⟩
 exact hout.rep.scaA hsca
theorem RR.born (hr:RR C φ σ a w){d:Nat}{B:Blk}{ob:Ob}{w':World}(hd:d<616)(hf:look σ.hp d=none)(ho:w'.os=w.os)(ht:w'.tape=w.tape)(hu:w'.output=w.output)(hs:w.heap.size<=w'.heap.size)(hk:∀k,k<w.heap.size->w'.heap[k]? = w.heap[k]?)
  (hB:∀k,B.has k->w.heap.size<=k/\k<w'.heap.size) (hrep:QbN (ext φ d B) (Imm C (ext φ d B) w') w' B ob):RR C (ext φ d B) (σ.set d ob) a w':=by
 have hr':RR C φ σ a w':=hr.step ho ht hu hs hk
 have hN:=hr.none_of_look hf
 have hmono:=hr'.mono_ext B hN
 have hI0:∀k,Imm C φ w k->Imm C (ext φ d B) w' k/\w'.heap[k]? = w.heap[k]? := fun k hk'=>
  ⟨⟨Qg8 hk'.1 hs,hk'.2.1,fun o' B' hB' hh=>by
   by_cases e:o'=d
   ·subst e;rw [Q8]at hB';cases hB';have:=hk'.1;have:=(hB k hh).1;omega
   rw [QS _ e]at hB';exact hk'.2.2 o' B' hB' hh⟩,hk k hk'.1⟩
 refine⟨hr'.os,hr'.tape,hr'.output,hr'.size,hr'.kept,?_,?_,?_,?_,⟨?_,fun o' ob' B1 hge ho' hB1=>by rw [QS _ (by omega)];exact hr'.stay.2 o' ob' B1 hge (by rwa [σ.look_set_other _ (by omega)]at ho') hB1⟩,hr'.tmps,hr.defers.mono hI0,?_,?_⟩
 ·intro o1 o2 B1 B2 k e1 e2 hb hb'
  by_cases g1:o1=d<;>by_cases g2:o2=d
  ·rw [g1,g2]
  ·subst g1;rw [Q8]at e1;cases e1;rw [QS _ g2]at e2
   have:=(hr.lt o2 B2 k e2 hb').1;have:=(hB k hb).1;omega
  ·subst g2;rw [Q8]at e2;cases e2;rw [QS _ g1]at e1
   have:=(hr.lt o1 B1 k e1 hb).1;have:=(hB k hb').1;omega
  rw [QS _ g1]at e1;rw [QS _ g2]at e2;exact hr.inj o1 o2 B1 B2 k e1 e2 hb hb'
 ·intro o' B' hB'
  by_cases e:o'=d
  ·subst e;exact⟨_,σ.look_set_same _ _⟩
  rw [QS _ e]at hB';obtain⟨ob',h'⟩:=hr.dom o' B' hB';exact⟨ob',by rw [σ.look_set_other _ (Ne.symm e)];exact h'⟩
 ·intro o' B' k hB' hk
  by_cases e:o'=d
  ·subst e;rw [Q8]at hB';cases hB';exact⟨(hB k hk).2,fun hlt=>absurd hr.size (by have:=(hB k hk).1;omega)⟩
  rw [QS _ e]at hB';exact hr'.lt o' B' k hB' hk
 ·intro o' B' k hB' hk hlt
  by_cases e:o'=d
  ·subst e;rw [Q8]at hB';cases hB';exact QbM hr.size (hB k hk).1
  rw [QS _ e]at hB';exact hr'.new o' B' k hB' hk hlt
 ·intro o' B' hge hB'
  rw [QS _ (by omega)]at hB';exact hr'.stay.1 o' B' hge hB'
 ·intro t u hu
  obtain⟨y,hy,hrep⟩:=hr.frame t u hu
  exact⟨y,hy,hrep.mono hmono hI0⟩
 intro o' ob' ho'
 by_cases e:o'=d
 ·subst e;rw [σ.look_set_same]at ho';cases ho'
  exact .inl ⟨B,Q8 _ _ _,hrep⟩
 rw [σ.look_set_other _ (Ne.symm e)]at ho'
 rcases hr.heap o' ob' ho' with⟨B',hB',hrep'⟩|⟨e1,e2⟩
 ·exact .inl ⟨B',by rw [QS _ e];exact hB',hrep'.mono hmono hI0 fun k hk'=>hk _ (hr.lt o' B' k hB' hk').1⟩
 exact .inr ⟨by rw [QS _ e];exact e1,e2⟩
def QtH (z:Nat)(rows:List (List V))(v:V)(hs:List (Nat×Ob)):Prop:=∃o,v=.own o rows.length/\look hs o=some (.arr z rows)
theorem Stp.callOEB {β:Nat}(hβ:β<=C.w0.heap.size){f:FuncId}{d m z:Nat}{g:Bool}{vs us:List V}{rows:List (List V)}(hE:Qbb P C o σ f vs)(hd:o.dst=some d)
  (hn:Nat.ble (d+1) C.n=true) (hpg:C.pg P) (hv:Qls σ.hp g vs us) (hc:Qai β P f us [] (QtH z rows)) (hres:g=false\/∀r∈rows,∀v∈r,v.sca=true)
  (hf:look σ.hp d=none) (hm:rows.length=m):Stp P C o σ ((σ.set d (.arr z rows)).put d (.own d m)):=by
 intro a w ⟨φ,hr⟩ next Q hnext
 subst hm
 refine⟨fun _ _=>trivial,?_⟩
 obtain⟨vals,hex,g1,g2⟩:=hE φ a w hr
 rw [Qrs hex,Oper.uponIn_enter]
 refine⟨(fun h=>by cases h),Qo5 ((hc _ _ w _ (QbM hβ hr.size) (Ins.of_viewsE hr g1 g2 hv) ((hr.glob hpg).mono fun _ h=>.inl h)).mono ?_)⟩
 rintro e w' ⟨x,v,hs',φ',rfl,⟨oo,rfl,hlook⟩,hout⟩
 have hr':=hr.called hout
 have hN:=hr.none_of_look hf
 rw [hd]
 rcases hout.heap oo _ hlook with⟨B,hB,hrep⟩|⟨hnone,hz'⟩
 ·have hBn:∀k,B.has k->w.heap.size<=k:=fun k hk=>by
   rcases QeR k w.heap.size with h | h
   ·obtain⟨_,_,h2,_⟩:=(hout.lt oo B k hB hk).2 h;simp at h2
   exact h
  have hBlt:∀k,B.has k->k<w'.heap.size:=fun k hk=>(hout.lt oo B k hB hk).1
  have hI:∀k,Imm C φ w' k->¬B.has k->Imm C (ext φ d B) w' k/\w'.heap[k]? = w'.heap[k]? := fun k hk hne=>⟨⟨hk.1,hk.2.1,fun o' B' hB'=>by
   by_cases e:o'=d
   ·subst e;rw [Q8]at hB';cases hB';exact hne
   rw [QS _ e]at hB';exact hk.2.2 o' B' hB'⟩,rfl⟩
  have hA:∀k,Aft (QyN C φ w g) φ' w w' k->¬B.has k:=fun k hk=>hk.2.2 oo B hB
  obtain⟨hz,hrl,hok,cs,E,h1,h2,h3⟩:=hrep
  have hset:RR C (ext φ d B) (σ.set d (.arr z rows)) a w':=by
   refine hr.born (C.slot hn) hf hout.os hout.tape hout.output hout.size (fun k hk=>hout.kept k hk fun _ _ h=>by simp at h) (fun k hk=>⟨hBn k hk,hBlt k hk⟩) ⟨hz,hrl,hok,cs,E,h1,h2,fun i r hi j v hj=>?_⟩
   obtain⟨y,hy,hD⟩:=h3 i r hi j v hj
   refine⟨y,hy,?_⟩
   rcases hres with rfl | hsc
   ·exact hD.mono fun k hk=>hI k (Aft.imm hr hk) (hA k hk)
   exact hD.sca (hsc r (Qaa hi) v (Qaa hj))
  refine hnext _ _ ⟨ext φ d B,hset.put (Qaj hn) ?_⟩
  rcases hout.rep.own_inv with⟨rfl,h0⟩|⟨B',hB',hcap,rfl⟩
  ·rw [h0];exact .own0 d
  rw [hB]at hB';cases hB';exact .own d _ B (Q8 _ _ _) hcap
 replace hz':rows=[]:=hz';subst hz'
 refine hnext _ _ ⟨φ,(hr'.setNil (C.slot hn) hf).put (Qaj hn) ?_⟩
 rcases hout.rep.own_inv with⟨rfl,h0⟩|⟨B',hB',_,_⟩
 ·exact .own0 d
 rw [hnone]at hB';cases hB'
theorem Stp.callE {f:FuncId}{d:Nat}{g:Bool}{vs us:List V}{r:V}(hE:Qbb P C o σ f vs)(hd:o.dst=some d)
  (hn:Nat.ble (d+1) C.n=true) (hpg:C.pg P) (hv:Qls σ.hp g vs us) (hc:Qc P f us [] fun v _=>v=r) (hres:(g=false/\r.datA=true)\/r.scaA=true):
  Stp P C o σ (σ.put d r):=
 Stp.callEB (β:=0) (Qnl _) hE hd hn hpg hv hc.b hres
theorem Stp.callOE {f:FuncId}{d m z:Nat}{g:Bool}{vs us:List V}{rows:List (List V)}(hE:Qbb P C o σ f vs)(hd:o.dst=some d)
  (hn:Nat.ble (d+1) C.n=true) (hpg:C.pg P) (hv:Qls σ.hp g vs us) (hc:Qc P f us [] (QtH z rows)) (hres:g=false\/∀r∈rows,∀v∈r,v.sca=true)
  (hf:look σ.hp d=none) (hm:rows.length=m):Stp P C o σ ((σ.set d (.arr z rows)).put d (.own d m)):=
 Stp.callOEB (β:=0) (Qnl _) hE hd hn hpg hv hc.b hres hf hm
end
end Go.Vm
namespace Go.Vm
open Go Go.RowKit
def w64 (n:Int):Int:=IntKind.i64.wrap n
def idx {α:Type}(l:List α)(j:Int):Option α:=if 0<=j then l[j.toNat]? else none
def chk (c:Bool):Option Unit:=bif c then some ()else none
theorem Qm {α:Type}{c:Bool}{x y:Option α}{r:α}(h:(bif c then x else y)=some r):(c=true/\x=some r)\/(c=false/\y=some r):=by
 cases c
 ·exact .inr ⟨rfl,h⟩
 exact .inl ⟨rfl,h⟩
theorem Qb {α β:Type}{o:Option α}{f:α->Option β}{r:β}(h:o.bind f=some r):∃x,o=some x/\f x=some r:=QoJ.1 h
theorem Qz2 {c:Bool}{u:Unit}(h:chk c=some u):c=true:=by
 cases c
 ·cases h
 rfl
theorem Qcq {α:Type}{l:List α}{j:Int}{x:α}(h:idx l j=some x):0<=j/\l[j.toNat]? = some x:=by
 unfold idx at h
 split at h
 ·exact⟨by assumption,h⟩
 cases h
theorem QDQ {α:Type}{l:List α}{j:Int}{x:α}(h:idx l j=some x):j<l.length:=by
 obtain⟨h0,h1⟩:=Qcq h
 have:=(QT.1 h1).1
 omega
theorem Qcb {α β:Type}{l:List α}{f:α->β}{i:Nat}{x:α}(h:l[i]? = some x):(l.map f)[i]? = some (f x):=by rw [Qak,h];rfl
theorem Qnz {α β:Type}{l:List α}{f:α->β}{i:Nat}{x:α}{r:β}(h:r=f x):(l.map f).set i r=(l.set i x).map f:=by rw [h,List.map_set]
theorem Qa2 {α β:Type}{l m:List α}{f:α->β}:l.map f++m.map f=(l++m).map f:=by simp
theorem QyO {α β:Type}{f:α->β}{n:Nat}{x:α}{r:β}(h:r=f x):List.replicate n r=(List.replicate n x).map f:=by rw [h];simp
theorem Qf {α β:Type}{l:List α}{f:α->β}:(l.map f).length=l.length:=Qlm f
theorem QE (c:Bool):c=true\/c=false:=by cases c<;>simp
theorem Qaq {c x y:Bool}(h:c=true)(e:x=y):x=(c&&y):=by rw [h,e];rfl
theorem Qa4 {c x y:Bool}(h:c=false)(e:x=false):x=(c&&y):=by rw [h,e];rfl
theorem orT {c x y:Bool}(h:c=true)(e:x=true):x=(c||y):=by rw [h,e];rfl
theorem orF {c x y:Bool}(h:c=false)(e:x=y):x=(c||y):=by rw [h,e];rfl
theorem QlM {c x y z:Bool}(h:c=true)(e:x=y):x=(bif c then y else z):=by rw [h,e];rfl
theorem Qq9 {c x y z:Bool}(h:c=false)(e:x=z):x=(bif c then y else z):=by rw [h,e];rfl
section
variable {P:Program}{C:Ctx}{ops:Array Oper}{σ:St}{Q:Exit->St->Prop}{c:Code}
theorem AWp.to (fr:List (Nat×V))(hp:List (Nat×Ob))(hf:Qi3 σ.fr fr)(hh:Qg9 σ.hp hp)(hk:St.closed ⟨fr,hp⟩=true)(h:AWp P C c ⟨fr,hp⟩ Q):AWp P C c σ Q:=
 AWp.weaken (fun _ _ hR=>hR.to hf hh hk) h
theorem AL.to {rest:List Oper}(fr:List (Nat×V))(hp:List (Nat×Ob))(hf:Qi3 σ.fr fr)(hh:Qg9 σ.hp hp)(hk:St.closed ⟨fr,hp⟩=true)(h:AL P C ops rest ⟨fr,hp⟩ Q):AL P C ops rest σ Q:=
 AL.weaken (fun _ _ hR=>hR.to hf hh hk) h
theorem AL.adopt {rest:List Oper}{t b z:Nat}(hlt:b<616)(ht:look σ.fr t=some (.lit (.slice none 0 0)))(hb:look σ.hp b=none)(h:AL P C ops rest ((σ.set b (.arr z [])).put t (.own b 0)) Q):AL P C ops rest σ Q:=
 AL.weaken (fun _ _ hR=>hR.adopt hlt ht hb) h
theorem AWp.adopt {t b z:Nat}(hlt:b<616)(ht:look σ.fr t=some (.lit (.slice none 0 0)))(hb:look σ.hp b=none)(h:AWp P C c ((σ.set b (.arr z [])).put t (.own b 0)) Q):AWp P C c σ Q:=
 AWp.weaken (fun _ _ hR=>hR.adopt hlt ht hb) h
theorem AL.freeze {rest:List Oper}{t b n z:Nat}{rs us:List (List V)}(hp:Nat.ble 614 b=false)(ht:look σ.fr t=some (.own b n))(hb:look σ.hp b=some (.arr z rs))(hle:n<=rs.length)(hu:rs.take n=us)
  (h:AL P C ops rest ((σ.kill b).put t (.sl z us)) Q):AL P C ops rest σ Q:=AL.weaken (fun _ _ hR=>hR.freeze hp ht hb hle hu) h
theorem AWp.freeze {t b n z:Nat}{rs us:List (List V)}(hp:Nat.ble 614 b=false)(ht:look σ.fr t=some (.own b n))(hb:look σ.hp b=some (.arr z rs))(hle:n<=rs.length)(hu:rs.take n=us)
  (h:AWp P C c ((σ.kill b).put t (.sl z us)) Q):AWp P C c σ Q:=AWp.weaken (fun _ _ hR=>hR.freeze hp ht hb hle hu) h
end
section
variable {P:Program}{C:Ctx}{σ:St}{o:Oper}
theorem Stp.extract {d i:Nat}{x:Operand}{vs:List V}{v:V}(ho:o.op=.extract x i)(hd:o.dst=some d)(hn:Nat.ble (d+1) C.n=true)(hx:σ.opd x=some (.tup vs))(hv:vs[i]? = some v):Stp P C o σ (σ.put d v):=by
 refine Stp.same hd hn fun φ a w hr=>?_
 obtain⟨xs,he,hs,hc⟩:=(hr.opd hx).tup_inv
 have hi:i<xs.size:=by rw [hs];exact(QT.1 hv).1
 exact⟨xs[i],by simp [execOp,ho,he,Instr.extract,hi],hc i _ v (QeA hi) hv⟩
theorem Stp.appS {T U d e e' z z' by_ by' b n m:Nat}{x y:Operand}{rs us rs':List (List V)}{zs:List V}(ho:o.op=.call { callee:=.builtin .append,args:=#[x,y],argTypes:=#[T,U] })
  (hd:o.dst=some d) (hn:Nat.ble (d+1) C.n=true) (hx:σ.opd x=some (.own b n)) (hb:look σ.hp b=some (.arr z rs)) (hb1:Nat.ble 616 b=false) (hnl:rs.length=n)
  (hT:Qav P T=some (e,z,by_)) (hU:Qav P U=some (e',z',by')) (hz:QaF P e=some zs) (hzl:zs.length=z) (hz0:z≠0) (hby:Nat.ble by_ 32768=true) (hsm:decide (n+us.length<=4294967296)=true)
  (hy:σ.opd y=some (.sl z us)) (he:rs++us=rs') (hm:n+us.length=m):Stp P C o σ (σ.app b z d m rs'):=
 Stp.append ho hd hn hx hb hb1 hnl hT hU hz hzl hz0 (QbV hby) (Qap hsm) (fun φ a w hr=>(hr.opd hy).source_sl) he hm
theorem Stp.appO {T U d e e' z z' by_ by' b b' n n' m:Nat}{x y:Operand}{rs us rs':List (List V)}{zs:List V}(ho:o.op=.call { callee:=.builtin .append,args:=#[x,y],argTypes:=#[T,U] })
  (hd:o.dst=some d) (hn:Nat.ble (d+1) C.n=true) (hx:σ.opd x=some (.own b n)) (hb:look σ.hp b=some (.arr z rs)) (hb1:Nat.ble 616 b=false) (hnl:rs.length=n)
  (hT:Qav P T=some (e,z,by_)) (hU:Qav P U=some (e',z',by')) (hz:QaF P e=some zs) (hzl:zs.length=z) (hz0:z≠0) (hby:Nat.ble by_ 32768=true) (hsm:decide (n+n'<=4294967296)=true)
  (hy:σ.opd y=some (.own b' n')) (hb':look σ.hp b'=some (.arr z us)) (hle:us.length=n') (he:rs++us=rs') (hm:n+n'=m):Stp P C o σ (σ.app b z d m rs'):=by
 subst hle
 refine Stp.append ho hd hn hx hb hb1 hnl hT hU hz hzl hz0 (QbV hby) (Qap hsm) (fun φ a w hr=>?_) he hm
 have:=(hr.opd hy).source_own hr hb' (Qb2 _)
 rwa [Qi2]at this
theorem Stp.appN {T U d e e' z z' by_ by' b n:Nat}{x y:Operand}{rs:List (List V)}{zs:List V}(ho:o.op=.call { callee:=.builtin .append,args:=#[x,y],argTypes:=#[T,U] })
  (hd:o.dst=some d) (hn:Nat.ble (d+1) C.n=true) (hx:σ.opd x=some (.own b n)) (hb:look σ.hp b=some (.arr z rs)) (hb1:Nat.ble 616 b=false) (hnl:rs.length=n)
  (hT:Qav P T=some (e,z,by_)) (hU:Qav P U=some (e',z',by')) (hz:QaF P e=some zs) (hzl:zs.length=z) (hz0:z≠0) (hby:Nat.ble by_ 32768=true) (hsm:decide (n<=4294967296)=true)
  (hy:σ.opd y=some (.lit (.slice none 0 0))):Stp P C o σ (σ.app b z d n rs):=by
 refine Stp.append (us:=[]) ho hd hn hx hb hb1 hnl hT hU hz hzl hz0 (QbV hby) (by simpa using Qap hsm) (fun φ a w hr=>?_) (by simp) (by simp)
 exact .inl ⟨none,0,(hr.opd hy).lit_inv,rfl⟩
end
end Go.Vm
namespace Go.Vm
open Go Go.RowKit
def QbW (a b:ByteArray):Bool:=a.toList==b.toList
def sidx (s:ByteArray)(j:Int):Option Int:=if 0<=j then(s[j.toNat]?).map fun c=>(c.toNat:Int)else none
def max2 (x y:Int):Int:=if y > x then y else x
def min2 (x y:Int):Int:=if y<x then y else x
theorem neZ {n:Int}(h:(n != 0)=true):n≠0:=by simpa using h
def Qwy (P:Program)(t:TypeId):Bool:=match P.underlying t with | some .bool=>true | _=>false
theorem QAZ {P:Program}{T:Nat}(h:Qwy P T=true):P.underlying T=some .bool:=by
 unfold Qwy at h
 split at h
 ·assumption
 cases h
theorem Qz3 {P:Program}{T:Nat}{m n:Bool}{w:World}(hu:P.underlying T=some .bool):(Op.equal T (.bool m) (.bool n)).run P w=.ok (m==n) w:=by
 have e:Op.equal T (.bool m) (.bool n)=Op.equalIn (9999+1) T (.bool m) (.bool n):=rfl
 rw [e,Op.equalIn]
 simp only [Sem.run_bind,run_underlying hu,Result.andThen_ok,Sem.run_pure]
section
variable {P:Program}{C:Ctx}{σ:St}{o:Oper}
theorem Stp.eqB {op:BinOp}{x y:Operand}{T U d:Nat}{m n:Bool}{v:V}(ho:o.op=.binOp op T x y U)(hd:o.dst=some d)(hn:Nat.ble (d+1) C.n=true)(hx:σ.opd x=some (.b m))(hy:σ.opd y=some (.b n))
  (hT:Qwy P T=true) (hv:(op=.eql/\v=.b (m==n))\/(op=.neq/\v=.b (m != n))):Stp P C o σ (σ.put d v):=by
 refine Stp.same hd hn fun φ a w hr=>?_
 have h1:=(hr.opd hx).b_inv
 have h2:=(hr.opd hy).b_inv
 have hu:=QAZ hT
 rcases hv with⟨rfl,rfl⟩|⟨rfl,rfl⟩ <;>
  exact⟨.bool _,by simp only [execOp,ho,h1,h2,Sem.run_bind,eqGuard_at_bool,Sem.run_pure,Result.andThen_ok,binOp,Qz3 hu];try rfl,.dat (.b _)⟩
theorem Stp.eqS {op:BinOp}{x y:Operand}{T U d:Nat}{m n:ByteArray}{v:V}(ho:o.op=.binOp op T x y U)(hd:o.dst=some d)(hn:Nat.ble (d+1) C.n=true)(hx:σ.opd x=some (.s m))(hy:σ.opd y=some (.s n))
  (hv:(op=.eql/\v=.b (QbW m n))\/(op=.neq/\v=.b (!QbW m n))):Stp P C o σ (σ.put d v):=by
 refine Stp.same hd hn fun φ a w hr=>?_
 have h1:=(hr.opd hx).s_inv
 have h2:=(hr.opd hy).s_inv
 rcases hv with⟨rfl,rfl⟩|⟨rfl,rfl⟩
 ·exact⟨.bool (QbW m n),by simp [execOp,ho,h1,h2,eqGuard,binOp,Op.stringOp,QbW],.dat (.b _)⟩
 exact⟨.bool (!QbW m n),by simp [execOp,ho,h1,h2,eqGuard,binOp,Op.stringOp,QbW],.dat (.b _)⟩
theorem Stp.idxStr' {T d:Nat}{x y:Operand}{k:IntKind}{j r:Int}{s:ByteArray}(ho:o.op=.index T x y)(hd:o.dst=some d)(hn:Nat.ble (d+1) C.n=true)
  (hx:σ.opd x=some (.s s)) (hy:σ.opd y=some (.i k j)) (hT:QtE P T=true) (h:sidx s j=some r):Stp P C o σ (σ.put d (.i .u8 r)):=by
 unfold sidx at h
 split at h
 ·obtain⟨c,hc,rfl⟩:=Qas.1 h
  exact Stp.idxStr ho hd hn hx hy hT (by assumption) hc
 cases h
theorem Stp.lenS' {T d e z z' by_ n:Nat}{x:Operand}{rows:List (List V)}(ho:o.op=.call { callee:=.builtin .len,args:=#[x],argTypes:=#[T] })(hd:o.dst=some d)(hn:Nat.ble (d+1) C.n=true)
  (hx:σ.opd x=some (.sl z rows)) (hT:Qav P T=some (e,z',by_)) (hl:rows.length=n):Stp P C o σ (σ.put d (.i .i64 n)):=by
 subst hl;exact Stp.lenS ho hd hn hx hT
theorem Stp.make' {T d e z by_:Nat}{x y:Operand}{zs:List V}{rs:List (List V)}{k k':IntKind}{l c:Int}(ho:o.op=.makeSlice T x y)(hd:o.dst=some d)(hn:Nat.ble (d+1) C.n=true)
  (hx:σ.opd x=some (.i k l)) (hy:σ.opd y=some (.i k' c)) (hT:Qav P T=some (e,z,by_)) (hz:QaF P e=some zs) (hzl:zs.length=z) (hz0:z≠0) (hone:zs.all V.one=true)
  (hk:(decide (0<=l)&&decide (l<=c)&&decide (c<=4294967296))=true) (hby:Nat.ble by_ 32768=true) (hf:look σ.hp d=none) (hrs:List.replicate l.toNat zs=rs):
  Stp P C o σ ((σ.set d (.arr z rs)).put d (.own d l.toNat)):=by
 subst hrs
 simp only [QB,QQ]at hk
 exact Stp.make ho hd hn hx hy hT hz hzl hz0 hone hk.1.1 hk.1.2 (QbV hby) hk.2 hf
theorem Stp.max2 {d:Nat}{x y:Operand}{k:IntKind}{m n:Int}{ts:Array TypeId}(ho:o.op=.call { callee:=.builtin .max,args:=#[x,y],argTypes:=ts })(hd:o.dst=some d)(hn:Nat.ble (d+1) C.n=true)
  (hx:σ.opd x=some (.i k m)) (hy:σ.opd y=some (.i k n)):Stp P C o σ (σ.put d (.i k (Vm.max2 m n))):=by
 refine Stp.same hd hn fun φ a w hr=>⟨.int k (Vm.max2 m n),?_,.dat (.i _ _)⟩
 simp [execOp,ho,(hr.opd hx).i_inv,(hr.opd hy).i_inv,resolve,invoke,builtin,Builtin.max_,Builtin.max2,Vm.max2]
theorem Stp.min2 {d:Nat}{x y:Operand}{k:IntKind}{m n:Int}{ts:Array TypeId}(ho:o.op=.call { callee:=.builtin .min,args:=#[x,y],argTypes:=ts })(hd:o.dst=some d)(hn:Nat.ble (d+1) C.n=true)
  (hx:σ.opd x=some (.i k m)) (hy:σ.opd y=some (.i k n)):Stp P C o σ (σ.put d (.i k (Vm.min2 m n))):=by
 refine Stp.same hd hn fun φ a w hr=>⟨.int k (Vm.min2 m n),?_,.dat (.i _ _)⟩
 simp [execOp,ho,(hr.opd hx).i_inv,(hr.opd hy).i_inv,resolve,invoke,builtin,Builtin.min_,Builtin.min2,Vm.min2]
end
def V.renC (o o':Nat):V->V
 | .own p n=>.own (bif Nat.beq p o then o' else p) n
 | .loc p k l=>.loc (bif Nat.beq p o then o' else p) k l
 | .map p=>.map (bif Nat.beq p o then o' else p)
 | .ifc t x=>.ifc t (x.renC o o')
 | .agg cs=>bif cs.all V.plain then .agg cs else .J
 | .tup _=>.J
 | .clo _ _ _=>.J
 | v=>v
def V.ren (o o':Nat):V->V
 | .agg cs=>.agg (cs.map (V.renC o o'))
 | .clo fn fs cs=>.clo fn (fs.map (V.renC o o')) (cs.map (V.renC o o'))
 | v=>v.renC o o'
def Ob.ren (o o':Nat):Ob->Ob
 | .var cs=>.var (cs.map (V.ren o o'))
 | .lp l K cs q=>.lp l K (cs.map (V.ren o o')) q
 | ob=>ob
def QuK (o o':Nat):List (Nat×V)->List (Nat×V)
 | []=>[]
 | (t,v)::r=>(t,v.ren o o')::QuK o o' r
def QuL (o o':Nat):List (Nat×Ob)->List (Nat×Ob)
 | []=>[]
 | (p,ob)::r=>(bif Nat.beq p o then o' else p,ob.ren o o')::QuL o o' r
def St.ren (σ:St)(o o':Nat):St:=⟨QuK o o' σ.fr,QuL o o' σ.hp⟩
section
variable {φ φ':Nat->Option Blk}{I:Nat->Prop}{w:World}{o o':Nat}
theorem QeX (p o o':Nat):(p=o/\(bif Nat.beq p o then o' else p)=o')\/(p≠o/\(bif Nat.beq p o then o' else p)=p):=by
 cases h:Nat.beq p o with
 | true=>exact .inl ⟨QaL h,rfl⟩
 | false=>exact .inr ⟨fun e=>by subst e;simp at h,rfl⟩
theorem Rep.renC (h1:∀B,φ o=some B->φ' o'=some B)(h2:∀p B,p≠o->φ p=some B->φ' p=some B){x:Value}{v:V}(h:Rep φ I w x v):Rep φ' I w x (v.renC o o'):=by
 have key:∀p B,φ p=some B->φ' (bif Nat.beq p o then o' else p)=some B:=by
  intro p B hB
  rcases QeX p o o' with⟨e,e2⟩|⟨e,e2⟩
  ·rw [e2];exact h1 B (e▸hB)
  rw [e2];exact h2 p B e hB
 induction h with
 | dat h=>
  have:∀{x:Value} {v:V},Dat I w x v->Rep φ' I w x (v.renC o o'):=by
   intro x v h
   induction h with
   | ifc t x v _ ih=>exact .ifc t x _ ih
   | agg xs cs hs hr=>
    unfold V.renC
    cases h:cs.all V.plain with
    | true=>exact .dat (.agg xs cs hs hr)
    | false=>exact .dat (.J _)
   | tup=>exact .dat (.J _)
   | b=>exact .dat (.b _)
   | i=>exact .dat (.i _ _)
   | s=>exact .dat (.s _)
   | lit=>exact .dat (.lit _)
   | J=>exact .dat (.J _)
   | sl0=>exact .dat (.sl0 _ _ _)
   | sl b off len cap z rows c a1 a2 a3 a4 a5 a6 _=>exact .dat (.sl b off len cap z rows c a1 a2 a3 a4 a5 a6)
   | e0=>exact .dat (.e0 _)
   | sln0=>exact .dat (.sln0 _ _ _ _)
   | sln β b off len cap z rows c E a0 a1 a2 a3 a4 a5 a6 a7 _=>exact .dat (.sln β b off len cap z rows c E a0 a1 a2 a3 a4 a5 a6 a7)
   | ro b off cs c a1 a2 a3 a4 _=>exact .dat (.ro b off cs c a1 a2 a3 a4)
  exact this h
 | own0 p=>exact .own0 _
 | own p n B hB hn=>exact .own _ n B (key p B hB) hn
 | loc p i d B hB=>exact .loc _ i d B (key p B hB)
 | map p B hB=>exact .map _ B (key p B hB)
 | ifc t x v _ ih=>exact .ifc t x _ ih
 | agg xs cs hs hr _=>
  unfold V.renC
  cases h:cs.all V.plain with
  | true=>exact .dat (Rep.aggPlain hs hr h)
  | false=>exact .dat (.J _)
 | tup=>exact .dat (.J _)
 | clo=>exact .dat (.J _)
theorem Rep.ren (h1:∀B,φ o=some B->φ' o'=some B)(h2:∀p B,p≠o->φ p=some B->φ' p=some B){x:Value}{v:V}(h:Rep φ I w x v):Rep φ' I w x (v.ren o o'):=by
 cases v with
 | agg cs=>
  obtain⟨xs,rfl,hs,hr⟩:=h.agg_inv
  refine .agg xs _ (by simpa using hs) fun j x v hx hv=>?_
  rw [Qak]at hv
  obtain⟨u,hu,rfl⟩:=Qas.1 hv
  exact(hr j x u hx hu).renC h1 h2
 | clo fn vs us=>
  obtain⟨xs,ys,rfl,e1,e2,e3,e4⟩:=h.clo_inv
  refine .clo fn xs ys _ _ (by simpa using e1) (by simpa using e2) (fun j x v hx hv=>?_) (fun j x v hx hv=>?_)
  ·rw [Qak]at hv
   obtain⟨u,hu,rfl⟩:=Qas.1 hv
   exact(e3 j x u hx hu).renC h1 h2
  rw [Qak]at hv
  obtain⟨u,hu,rfl⟩:=Qas.1 hv
  exact(e4 j x u hx hu).renC h1 h2
 | _=>exact h.renC h1 h2
theorem QbN.ren (h1:∀B,φ o=some B->φ' o'=some B)(h2:∀p B,p≠o->φ p=some B->φ' p=some B){B:Blk}{ob:Ob}(h:QbN φ I w B ob):QbN φ' I w B (ob.ren o o'):=by
 cases ob with
 | var vs=>
  obtain⟨cs,E,e1,e2,e0,e3⟩:=h
  refine⟨cs,E,e1,by simpa using e2,e0,fun j x v hx hv=>?_⟩
  rw [Qak]at hv
  obtain⟨u,hu,rfl⟩:=Qas.1 hv
  exact(e3 j x u hx hu).ren h1 h2
 | lp l K vs q=>
  obtain⟨tmps,D,e0,e1,e2,e3,e4⟩:=h
  refine⟨tmps,D,e0,e1,e2,by simpa using e3,fun j x v hx hv=>?_⟩
  rw [Qak]at hv
  obtain⟨u,hu,rfl⟩:=Qas.1 hv
  exact(e4 j x u hx hu).ren h1 h2
 | arr z rs=>exact h
 | map l=>exact h
 | grp z l lk=>exact h
 | mapX bm clock L l=>exact h
 | itr bm since seen cur=>exact h
 | itr0=>exact h
 | tbl A z rs=>exact h
 | nst x v=>exact h
 | scr D H=>exact h
theorem Ob.Nil.ren {ob:Ob}(h:ob.Nil):(ob.ren o o').Nil:=by cases ob<;>first | exact h | exact h.elim
end
theorem Qwz {o o':Nat}:∀(l:List (Nat×V)) (t:Nat) (v:V),look (QuK o o' l) t=some v->∃v',look l t=some v'/\v=v'.ren o o':=by
 intro l
 induction l with
 | nil=>intro t v h;cases h
 | cons p l ih=>
  intro t v h
  obtain⟨k,u⟩:=p
  by_cases e:k=t
  ·subst e;rw [QuK,Qv]at h;cases h;exact⟨u,Qv _ _ _,rfl⟩
  rw [QuK,Qr _ _ e]at h
  rw [Qr _ _ e];exact ih t v h
theorem QnT {o o':Nat}:∀(l:List (Nat×Ob)) (p:Nat) (ob:Ob),look l o'=none->look l p=some ob->look (QuL o o' l) (bif Nat.beq p o then o' else p)=some (ob.ren o o'):=by
 intro l
 induction l with
 | nil=>intro p ob _ h;cases h
 | cons q l ih=>
  intro p ob hn h
  obtain⟨k,u⟩:=q
  have hk:k≠o':=fun e=>by subst e;rw [Qv]at hn;cases hn
  rw [Qr _ _ hk]at hn
  rw [QuL]
  by_cases e:k=p
  ·subst e;rw [Qv]at h;cases h;exact Qv _ _ _
  rw [Qr _ _ e]at h
  have ne:(bif Nat.beq k o then o' else k)≠(bif Nat.beq p o then o' else p):=by
   have hp:p≠o':=fun e'=>by rw [e',hn]at h;cases h
   rcases QeX k o o' with⟨a1,a2⟩|⟨a1,a2⟩<;>rcases QeX p o o' with⟨b1,b2⟩|⟨b1,b2⟩<;>rw [a2,b2]<;>omega
  rw [Qr _ _ ne];exact ih p ob hn h
theorem QoL {o o':Nat}:∀(l:List (Nat×Ob)) (q:Nat) (ob:Ob),look l o'=none->look (QuL o o' l) q=some ob->∃p ob',q=(bif Nat.beq p o then o' else p)/\look l p=some ob'/\ob=ob'.ren o o':=by
 intro l
 induction l with
 | nil=>intro p ob _ h;cases h
 | cons x l ih=>
  intro q ob hn h
  obtain⟨k,u⟩:=x
  have hk:k≠o':=fun e=>by subst e;rw [Qv]at hn;cases hn
  rw [Qr _ _ hk]at hn
  rw [QuL]at h
  by_cases e:(bif Nat.beq k o then o' else k)=q
  ·subst e;rw [Qv]at h;cases h
   exact⟨k,u,rfl,Qv _ _ _,rfl⟩
  rw [Qr _ _ e]at h
  obtain⟨p,ob',h1,h2,h3⟩:=ih q ob hn h
  refine⟨p,ob',h1,?_,h3⟩
  rw [Qr _ _ (fun e2=>e (by rw [e2,h1]))];exact h2
section
variable {C:Ctx}{σ:St}{a:Act}{w:World}
theorem R.ren (h:R C σ a w)(o o':Nat)(ho:Nat.ble 614 o=false)(ho':Nat.ble 614 o'=false)(hn:look σ.hp o'=none):R C (σ.ren o o') a w:=by
 obtain⟨φ,hr⟩:=h
 have hφn:=hr.none_of_look hn
 by_cases eo:o=o'
 ·
  subst eo
  have hfr:∀t v,look (QuK o o σ.fr) t=some v->∃v',look σ.fr t=some v'/\v=v'.ren o o:=Qwz σ.fr
  refine⟨φ,hr.os,hr.tape,hr.output,hr.size,hr.kept,hr.inj,fun p B hB=>?_,hr.lt,hr.new,hr.stay.sub (fun q ob hq=>let ⟨p,ob',e1,e2,_⟩:=QoL σ.hp q ob hn hq;⟨ob',by rcases QeX p o o with⟨a1,a2⟩|⟨a1,a2⟩<;>rw [e1,a2];exact a1▸e2;exact e2⟩),hr.tmps,hr.defers,fun t v hv=>?_,fun q ob hq=>?_⟩
  ·obtain⟨ob,hob⟩:=hr.dom p B hB
   have:=QnT (o:=o) (o':=o) σ.hp p ob hn hob
   rcases QeX p o o with⟨e1,e2⟩|⟨e1,e2⟩
   ·rw [e1,hφn]at hB;cases hB
   rw [e2]at this;exact⟨_,this⟩
  ·obtain⟨v',hv',rfl⟩:=hfr t v hv
   obtain⟨x,hx,hrep⟩:=hr.frame t v' hv'
   exact⟨x,hx,hrep.ren (fun B h=>h) (fun p B _ h=>h)⟩
  obtain⟨p,ob',e1,e2,rfl⟩:=QoL σ.hp q ob hn hq
  have:q=p:=by rcases QeX p o o with⟨a1,a2⟩|⟨a1,a2⟩<;>rw [e1,a2];exact a1.symm
  subst this
  rcases hr.heap q ob' e2 with⟨B,hB,hrep⟩|⟨h1,hz⟩
  ·exact .inl ⟨B,hB,hrep.ren (fun B h=>h) (fun p B _ h=>h)⟩
  exact .inr ⟨h1,hz.ren⟩
 let φ':Nat->Option Blk:=fun k=>if k=o' then φ o else if k=o then none else φ k
 have h1:∀B,φ o=some B->φ' o'=some B:=fun B hB=>by simp only [φ',if_true];exact hB
 have h2:∀p B,p≠o->φ p=some B->φ' p=some B:=fun p B hp hB=>by
  have:p≠o':=fun e=>by rw [e,hφn]at hB;cases hB
  simp only [φ',if_neg this,if_neg hp];exact hB
 have inv:∀q B,φ' q=some B->(q=o'/\φ o=some B)\/(q≠o'/\q≠o/\φ q=some B):=by
  intro q B hB
  simp only [φ']at hB
  split at hB
  ·exact .inl ⟨by assumption,hB⟩
  split at hB
  ·cases hB
  exact .inr ⟨by assumption,by assumption,hB⟩
 have hI:∀k,Imm C φ w k->Imm C φ' w k:=fun k hk=>⟨hk.1,hk.2.1,fun q B hB=>by
  rcases inv q B hB with⟨_,h⟩|⟨_,_,h⟩
  ·exact hk.2.2 o B h
  exact hk.2.2 q B h⟩
 have hlt:o<614:=by
  rcases QeR o 614 with h | h
  ·exact h
  rw [Qqo h]at ho;cases ho
 have up:∀{x:Value} {v:V},Rep φ (Imm C φ w) w x v->Rep φ (Imm C φ' w) w x v:=fun h=>h.mono (fun _ _ h=>h) (fun k hk=>⟨hI k hk,rfl⟩)
 refine⟨φ',hr.os,hr.tape,hr.output,hr.size,hr.kept,fun p q B B' k e1 e2 hb hb'=>?_,fun q B hB=>?_,fun q B k hB hk=>?_,fun q B k hB hk hq=>?_,⟨fun q B hq hB=>?_,fun q ob B hge hq hB=>by
  obtain⟨p,ob',e1,e2,_⟩:=QoL σ.hp q ob hn hq
  have hlt':o'<614:=by
   rcases QeR o' 614 with h | h
   ·exact h
   rw [Qqo h]at ho';cases ho'
  have:q=p:=by
   rcases QeX p o o' with⟨a1,a2⟩|⟨a1,a2⟩
   ·rw [a2]at e1;omega
   rw [a2]at e1;exact e1
  subst this
  have h1:=hr.stay.2 q ob' B hge e2 hB
  show φ' q=some B
  simp only [φ']
  rw [if_neg (by omega),if_neg (by omega)];exact h1⟩,hr.tmps,hr.defers.mono fun k hk=>⟨hI k hk,rfl⟩,fun t v hv=>?_,fun q ob hq=>?_⟩
 ·rcases inv p B e1 with⟨a1,a2⟩|⟨a1,a2,a3⟩<;>rcases inv q B' e2 with⟨b1,b2⟩|⟨b1,b2,b3⟩
  ·rw [a1,b1]
  ·exact absurd (hr.inj o q B B' k a2 b3 hb hb').symm b2
  ·exact absurd (hr.inj p o B B' k a3 b2 hb hb') a2
  exact hr.inj p q B B' k a3 b3 hb hb'
 ·rcases inv q B hB with⟨a1,a2⟩|⟨a1,a2,a3⟩
  ·obtain⟨ob,hob⟩:=hr.dom o B a2
   have:=QnT (o:=o) (o':=o') σ.hp o ob hn hob
   rcases QeX o o o' with⟨_,e⟩|⟨e,_⟩
   ·rw [e]at this;rw [a1];exact⟨_,this⟩
   exact absurd rfl e
  obtain⟨ob,hob⟩:=hr.dom q B a3
  have:=QnT (o:=o) (o':=o') σ.hp q ob hn hob
  rcases QeX q o o' with⟨e,_⟩|⟨_,e⟩
  ·exact absurd e a2
  rw [e]at this;exact⟨_,this⟩
 ·rcases inv q B hB with⟨a1,a2⟩|⟨a1,a2,a3⟩
  ·exact hr.lt o B k a2 hk
  exact hr.lt q B k a3 hk
 ·rcases inv q B hB with⟨a1,a2⟩|⟨a1,a2,a3⟩
  ·exact hr.new o B k a2 hk hlt
  exact hr.new q B k a3 hk hq
 ·rcases inv q B hB with⟨a1,a2⟩|⟨a1,a2,a3⟩
  ·have:o'<614:=by
    rcases QeR o' 614 with h | h
    ·exact h
    rw [Qqo h]at ho';cases ho'
   omega
  exact hr.stay.1 q B hq a3
 ·obtain⟨v',hv',rfl⟩:=Qwz _ _ _ hv
  obtain⟨x,hx,hrep⟩:=hr.frame t v' hv'
  exact⟨x,hx,(up hrep).ren h1 h2⟩
 obtain⟨p,ob',e1,e2,rfl⟩:=QoL σ.hp q ob hn hq
 rcases hr.heap p ob' e2 with⟨B,hB,hrep⟩|⟨hnn,hz⟩
 ·have hrep':QbN φ (Imm C φ' w) w B ob':=hrep.mono (fun _ _ h=>h) (fun k hk=>⟨hI k hk,rfl⟩) fun _ _=>rfl
  refine .inl ⟨B,?_,hrep'.ren h1 h2⟩
  rcases QeX p o o' with⟨a1,a2⟩|⟨a1,a2⟩
  ·rw [e1,a2];exact h1 B (a1▸hB)
  rw [e1,a2];exact h2 p B a1 hB
 refine .inr ⟨?_,hz.ren⟩
 rcases QeX p o o' with⟨a1,a2⟩|⟨a1,a2⟩
 ·rw [e1,a2];simp only [φ',if_true];rw [<-a1];exact hnn
 have:p≠o':=fun e=>by rw [e,hn]at e2;cases e2
 rw [e1,a2];simp only [φ',if_neg this,if_neg a1];exact hnn
end
section
variable {P:Program}{C:Ctx}{ops:Array Oper}{σ:St}{Q:Exit->St->Prop}{c:Code}
theorem AL.ren {rest:List Oper}(o o':Nat)(ho:Nat.ble 614 o=false)(ho':Nat.ble 614 o'=false)(hn:look σ.hp o'=none)(h:AL P C ops rest (σ.ren o o') Q):AL P C ops rest σ Q:=
 AL.weaken (fun _ _ hR=>hR.ren o o' ho ho' hn) h
theorem AWp.ren (o o':Nat)(ho:Nat.ble 614 o=false)(ho':Nat.ble 614 o'=false)(hn:look σ.hp o'=none)(h:AWp P C c (σ.ren o o') Q):AWp P C c σ Q:=
 AWp.weaken (fun _ _ hR=>hR.ren o o' ho ho' hn) h
end
theorem QCS {α:Type}{f:α->List V}(hf:∀x,(f x).all V.sca=true)(l:List α):∀r∈l.map f,∀v∈r,v.sca=true:=by
 intro r hr v hv
 obtain⟨x,_,rfl⟩:=QaE.1 hr
 have:=hf x
 rw [Qad]at this
 exact this v hv
end Go.Vm
namespace Go.Vm
open Go Go.RowKit
structure DF where
 d:Nat
 v:V
 ob:Option Ob
def St.addF (σ:St)(x:DF):St:=match x.ob with
 | none=>σ.put x.d x.v
 | some ob=>(σ.set x.d ob).put x.d x.v
def Qsk (σ:St)(x:DF):Prop:=look σ.fr x.d=some x.v/\∀ob,x.ob=some ob->look σ.hp x.d=some ob
def QbO (P:Program)(C:Ctx)(ops:Array Oper)(o:Oper)(σ σ':St):Prop:=
 ∀a w,R C σ a w->∀(K:Act->World->Prop) (Q:Exit->Act->World->Prop),(∀a' w',R C σ' a' w'->K a' w')->
  if Region.wanted o (yielded ops a.tmps)then o.wpIn C.F 0 P a w K Q else K (a.put o.dst undef) w
section
variable {P:Program}{C:Ctx}{ops:Array Oper}{σ σ':St}{Q:Exit->St->Prop}{o:Oper}
theorem QbO.run (hg:o.guard=none)(h:Stp P C o σ σ'):QbO P C ops o σ σ':=by
 intro a w hR K Q hK
 simp only [Region.wanted,hg,if_true]
 exact h a w hR K Q hK
theorem QbO.runG {j d:Nat}{c t:Bool}(hg:o.guard=some (j,t))(hj:((ops[j]?).bind (·.dst))=some d)(hv:look σ.fr d=some (.b c))(hc:c=t)(h:Stp P C o σ σ'):QbO P C ops o σ σ':=by
 intro a w hR K Q hK
 subst hc
 simp only [Region.wanted,hg,hR.yielded hj hv,beq_self_eq_true,if_true]
 exact h a w hR K Q hK
theorem QbO.pass {j d t:Nat}{c u:Bool}(hg:o.guard=some (j,u))(hj:((ops[j]?).bind (·.dst))=some d)(hv:look σ.fr d=some (.b c))(hc:c=!u)(ho:o.dst=some t)(ht:Nat.ble (t+1) C.n=true):
  QbO P C ops o σ (σ.put t (.lit undef)):=by
 intro a w hR K Q hK
 simp only [Region.wanted,hg,hR.yielded hj hv]
 rw [if_neg (by subst hc;cases u<;>decide)]
 obtain⟨φ,hr⟩:=hR
 rw [ho]
 exact hK _ _ ⟨φ,hr.put (QbV ht) (.dat (.lit _))⟩
theorem QbO.passU {j d t:Nat}{u:Bool}(hg:o.guard=some (j,u))(hj:((ops[j]?).bind (·.dst))=some d)(hv:look σ.fr d=some (.lit undef))(ho:o.dst=some t)(ht:Nat.ble (t+1) C.n=true):
  QbO P C ops o σ (σ.put t (.lit undef)):=by
 intro a w hR K Q hK
 simp only [Region.wanted,hg,hR.unyielded hj hv]
 rw [if_neg (by simp)]
 obtain⟨φ,hr⟩:=hR
 rw [ho]
 exact hK _ _ ⟨φ,hr.put (QbV ht) (.dat (.lit _))⟩
def QkS (o:Oper)(j:Nat):Bool:=o.after.toList.any fun e=>Region.binds .any e&&Nat.beq e.on j
def Qxt (ops:Array Oper):Bool:=(List.range ops.size).all fun i=>((ops[i]?).map fun o=>o.after.toList.all fun e=>!Region.binds .any e||Nat.ble (e.on+1) i).getD true
def QeY : List Nat->Bool
 | []=>true
 | k::r=>!Qab r k&&QeY r
structure Mid (C:Ctx) (base:St) (fs:List DF) (listed:Array Bool) (σ:St):Prop where
 fr:∀t v,look base.fr t=some v->look σ.fr t=some v
 hp:∀o ob,look base.hp o=some ob->look σ.hp o=some ob
 did:∀(i:Nat) x,fs[i]? = some x->listed[i]? = some true->Qsk σ x
 not:∀(i:Nat) x,fs[i]? = some x->listed[i]? ≠ some true->look σ.hp x.d=none
theorem Ql3 {listed:Array Bool}{i:Nat}(hs:listed.size=ops.size):i∈Region.ready .any ops listed↔∃o,ops[i]? = some o/\listed[i]? = some false/\∀e∈o.after,Region.binds .any e=true->listed[e.on]? = some true:=by
 unfold Region.ready
 rw [Qnj,Qi1]
 constructor
 ·rintro ⟨hi,h⟩
  rw [QB]at h
  obtain⟨h1,h2⟩:=h
  have hi':i<listed.size:=by omega
  refine⟨ops[i],QeA hi,?_,?_⟩
  ·rw [QeA hi']
   simp [Array.getD,hi']at h1
   rw [h1]
  intro e he hb
  simp only [QeA hi,Qfu,Option.getD_some,Array.all_eq_true_iff_forall_mem]at h2
  have:=h2 e he
  simp only [hb,Qft,Bool.false_or]at this
  by_cases hlt:e.on<listed.size
  ·rw [QeA hlt]
   simp [Array.getD,hlt]at this
   rw [this]
  simp [Array.getD,hlt]at this
 rintro ⟨o,ho,hl,hd⟩
 have hi:i<ops.size:=(Qhr.1 ho).1
 refine⟨hi,?_⟩
 rw [QB]
 have hi':i<listed.size:=by omega
 rw [QeA hi']at hl
 refine⟨by simp [Array.getD,hi',Option.some.inj hl],?_⟩
 simp only [ho,Qfu,Option.getD_some,Array.all_eq_true_iff_forall_mem]
 intro e he
 cases hb:Region.binds .any e with
 | false=>rfl
 | true=>
  have:=hd e he hb
  obtain⟨hlt,hv⟩:=Qhr.1 this
  simp [Array.getD,hlt,hv]
def QtI (ops:Array Oper)(listed:Array Bool):Prop:=∀(i:Nat) o,ops[i]? = some o->listed[i]? = some true->∀e∈o.after,Region.binds .any e=true->listed[e.on]? = some true
theorem QtI.set {listed:Array Bool}(hs:listed.size=ops.size)(h:QtI ops listed){i:Nat}(hi:i∈Region.ready .any ops listed):QtI ops (listed.setIfInBounds i true):=by
 obtain⟨o,ho,hl,hd⟩:=(Ql3 hs).1 hi
 have keep:∀(k:Nat),listed[k]? = some true->(listed.setIfInBounds i true)[k]? = some true:=by
  intro k hk
  rw [Qq4]
  split
  ·rename_i e;subst e;rw [if_pos (Qhr.1 hk).1]
  exact hk
 intro k o' ho' hk e he hb
 by_cases e1:i=k
 ·subst e1
  rw [ho]at ho';cases ho'
  exact keep _ (hd e he hb)
 rw [QyL e1]at hk
 exact keep _ (h k o' ho' hk e he hb)
theorem Qzy (hord:Qxt ops=true){listed:Array Bool}(hs:listed.size=ops.size){k:Nat}(hk:k<ops.size)(hl:listed[k]? ≠ some true)(hall:∀i,i<k->listed[i]? = some true):k∈Region.ready .any ops listed:=by
 rw [Ql3 hs]
 have hk':k<listed.size:=by omega
 refine⟨ops[k],QeA hk,?_,fun e he hb=>?_⟩
 ·rw [QeA hk']at hl ⊢
  cases h:listed[k]with
  | true=>rw [h]at hl;exact absurd rfl hl
  | false=>rfl
 rw [Qxt,Qad]at hord
 have:=hord k (Qi1.2 hk)
 simp only [QeA hk,Qfu,Option.getD_some,Qad]at this
 have:=this e (QvA.2 he)
 simp only [hb,Qft,Bool.false_or]at this
 exact hall _ (QbV this)
theorem QyP {listed:Array Bool}(n:Nat)(h:∃i,i<n/\listed[i]? ≠ some true):∃k,k<n/\listed[k]? ≠ some true/\∀i,i<k->listed[i]? = some true:=by
 induction n with
 | zero=>obtain⟨i,hi,_⟩:=h;omega
 | succ n ih=>
  by_cases h':∃i,i<n/\listed[i]? ≠ some true
  ·obtain⟨k,h1,h2,h3⟩:=ih h';exact⟨k,by omega,h2,h3⟩
  obtain⟨i,hi,hn⟩:=h
  have:i=n:=by
   rcases QeR i n with h | h
   ·exact absurd ⟨i,h,hn⟩ h'
   omega
  subst this
  refine⟨i,by omega,hn,fun j hj=>?_⟩
  by_cases hj2:listed[j]? = some true
  ·exact hj2
  exact absurd ⟨j,hj,hj2⟩ h'
theorem QjL {l:List Nat}{k:Nat}:Qab l k=true↔k∈l:=by
 induction l with
 | nil=>simp [Qab]
 | cons x l ih=>
  simp only [Qab,Qcs,ih,QaK]
  constructor
  ·rintro (h | h)
   ·exact .inl (QaL h).symm
   exact .inr h
  rintro (h | h)
  ·subst h;exact .inl (by simp)
  exact .inr h
theorem Qb4 {l:List Nat}:QeY l=true↔l.Nodup:=by
 induction l with
 | nil=>simp [QeY]
 | cons x l ih=>
  simp only [QeY,QB,ih,Qlp]
  constructor
  ·rintro ⟨h1,h2⟩
   refine⟨fun hm=>?_,h2⟩
   rw [QjL.2 hm]at h1;cases h1
  rintro ⟨h1,h2⟩
  refine⟨?_,h2⟩
  cases hb:Qab l x with
  | false=>rfl
  | true=>exact absurd (QjL.1 hb) h1
end
end Go.Vm
