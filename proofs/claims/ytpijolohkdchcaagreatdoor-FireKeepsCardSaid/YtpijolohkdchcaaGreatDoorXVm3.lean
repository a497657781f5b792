/- A part of the proof; what it holds is told at each theorem. -/
import Derived.Test.YtpijolohkdchcaaGreatDoorXVm2
import Derived.Shelf.Sort.Plain
import Derived.Shelf.Slices.In.SortNone
import Derived.Laws.BytesString
import Derived.Shelf.Slices.CompactI
import Derived.Shelf.Strings.Fields
set_option linter.unusedVariables false
set_option linter.unusedSimpArgs false
set_option linter.unusedSectionVars false
set_option linter.deprecated false
namespace Go.Vm
open Go Go.RowKit Go.Proofs Go.Sort Go.Shelf
def Qb7 (l:List Int):List Int:=l.mergeSort fun x y=>decide (x≤y)
def rowI (x:Int):List V:=[V.i .i64 x]
theorem Qjs (l:List Int):(Qb7 l).length=l.length:=List.length_mergeSort ..
theorem QsF {P:Program}{ρ:Ren}(Ly:Lays.n189 P ρ)(zs:List Int)(hz:zs.length<4611686018427387904):
  Qc P (ρ.f 189) [.own 200000 zs.length] [(200000,.arr 1 (zs.map rowI))] (Gives (.tup []) [(200000,.arr 1 ((Qb7 zs).map rowI))]):=by
 intro S φ w vals hi _
 have hs:=hi.size
 obtain⟨v0,hv0⟩:∃v0,vals=#[v0]:=by
  obtain⟨l⟩:=vals
  match l,hs with
  | [x],_=>exact⟨x,rfl⟩
 subst hv0
 have ha:=hi.args 0 v0 _ rfl rfl
 rcases ha.own_inv with⟨hx,hn⟩|⟨B,hB,hn,hx⟩
 ·have h0:zs=[]:=List.eq_nil_of_length_eq_zero hn
  subst h0;subst hx
  refine(Any.slices_Sort_int_none Ly none 0 w).mono ?_
  rintro e w' ⟨rfl,rfl⟩
  refine⟨.tuple #[],.tup [],[(200000,.arr 1 [])],φ,rfl,⟨rfl,fun c ob h=>by simpa [Qb7] using h⟩,rfl,rfl,rfl,Nat.le_refl _,fun _ _ _=>rfl,hi.inj,fun o B h=>?_,fun o B k h hk=>?_,fun o B k h hk hlt=>?_,⟨fun o B _ h=>h,fun o ob B _ _ h=>h⟩,.dat (.tup _ _ rfl fun j x v h=>by simp at h),fun o ob h=>?_⟩
  ·obtain⟨_,_,ob,hob⟩:=hi.dom o B h;exact⟨ob,hob⟩
  ·obtain⟨_,h2,_⟩:=hi.dom o B h
   exact⟨(h2 k hk).1,fun _=>⟨o,B,h,hk⟩⟩
  ·obtain⟨h1,_,_⟩:=hi.dom o B h;omega
  ·have hS:∀k,S k→Aft S φ w' w' k∧w'.heap[k]? = w'.heap[k]? := fun k hk=>⟨⟨hi.lt k hk,fun _=>hk,fun o B h hb=>((hi.dom o B h).2.1 k hb).2 hk⟩,rfl⟩
   rcases hi.heap o ob h with⟨B,hB,hr⟩|hn
   ·exact .inl ⟨B,hB,hr.mono (fun _ _ h=>h) hS fun _ _=>rfl⟩
   ·exact .inr hn
 ·subst hx
  have hob:Qbi φ S w B (.arr 1 (zs.map rowI)):=by
   rcases hi.heap 200000 _ (Qq _ _ _)with⟨B',hB',hr⟩|⟨hn',_⟩
   ·rw [hB]at hB';cases hB';exact hr
   ·rw [hB]at hn';cases hn'
  obtain⟨hz1,hle,hok,cs,E,hb,hsz,hcell⟩:=hob
  have hlt:B.b<w.heap.size:=((hi.dom _ _ hB).2.1 _ B.self).1
  have hrow:∀(l:List Int) (i:Nat) (x:Int),l[i]? = some x→(l.map rowI)[i]? = some (rowI x):=fun l i x h=>by rw [List.getElem?_map,h];rfl
  have hc:∀(i:Nat) x,zs[i]? = some x→cs[B.off+i]? = some (.int .i64 x):=fun i x h=>by
   obtain⟨y,hy,hd⟩:=hcell i _ (hrow _ i x h) 0 (.i .i64 x) rfl
   rw [show i*1+0=i by omega]at hy
   rw [hy];cases hd;rfl
  have hH:Holds (Value.int .i64) w B.b B.off zs.toArray:=fun j hj=>by
   have hj':j<zs.length:=by simpa using hj
   have h1:=hc j zs[j] (List.getElem?_eq_getElem hj')
   have h2:zs.toArray[j]! = zs[j]:=by simp [hj']
   refine⟨?_,?_⟩
   ·rw [h2];simp [World.cell?,hb,h1]
   ·simp [World.frozen?,hb]
  refine(Any.slices_Sort_int Ly B.b B.off B.cap zs w hH hlt hz).mono ?_
  rintro e w' ⟨rfl,n,os,rfl⟩
  have hh:∀k,k<w.heap.size→(grow (putRow (Value.int .i64) (Sort.ahead w n) B.b B.off (Qb7 zs).toArray) os).heap[k]? = (w.heap.modify B.b (onCells (putCells (Value.int .i64) B.off (Qb7 zs).toArray)))[k]? := fun k hk=>by
   rw [heap_grow_old _ _ (by rw [size_putRow];exact hk)];rfl
  have ho:∀k,k<w.heap.size→k≠B.b→(grow (putRow (Value.int .i64) (Sort.ahead w n) B.b B.off (Qb7 zs).toArray) os).heap[k]? = w.heap[k]? := fun k hk hne=>by
   rw [hh k hk,Array.getElem?_modify,if_neg (Ne.symm hne)]
  have hsize:w.heap.size≤(grow (putRow (Value.int .i64) (Sort.ahead w n) B.b B.off (Qb7 zs).toArray) os).heap.size:=by
   rw [size_grow,size_putRow];exact Nat.le_add_right _ _
  have hme:(grow (putRow (Value.int .i64) (Sort.ahead w n) B.b B.off (Qb7 zs).toArray) os).heap[B.b]? = some (.cells (putCells (Value.int .i64) B.off (Qb7 zs).toArray cs) E (0,0)):=by
   rw [hh _ hlt,Array.getElem?_modify,if_pos rfl,hb];rfl
  have hall:∀o' B',φ o'=some B'→o'=200000:=fun o' B' h'=>by
   obtain⟨_,_,ob,hob⟩:=hi.dom o' B' h'
   by_cases e:200000=o'
   ·exact e.symm
   ·rw [Qn _ _ e]at hob;cases hob
  refine⟨.tuple #[],.tup [],[(200000,.arr 1 ((Qb7 zs).map rowI))],φ,rfl,⟨rfl,fun c ob h=>h⟩,rfl,rfl,rfl,hsize,fun k hk hno=>?_,hi.inj,fun o B h=>?_,fun o B k h hk=>?_,fun o B k h hk hl=>?_,⟨fun o B _ h=>h,fun o ob B _ _ h=>h⟩,.dat (.tup _ _ rfl fun j x v h=>by simp at h),fun o ob h=>?_⟩
  ·exact ho k hk fun e=>hno 200000 B hB (e▸B.self)
  ·rw [hall o B h];exact⟨_,Qq _ _ _⟩
  ·obtain⟨_,h2,_⟩:=hi.dom o B h
   exact⟨Nat.lt_of_lt_of_le (h2 k hk).1 hsize,fun _=>⟨o,B,h,hk⟩⟩
  ·obtain⟨h1,_,_⟩:=hi.dom o B h;omega
  ·by_cases e:200000=o
   ·subst e
    rw [Qq]at h;cases h
    refine .inl ⟨B,hB,hz1,?_,?_,_,E,hme,?_,?_⟩
    ·rw [List.length_map,Qjs];rw [List.length_map]at hle;exact hle
    ·intro r hr;obtain⟨x,_,rfl⟩:=List.mem_map.1 hr
     exact⟨rfl,fun v hv=>by simp [rowI]at hv;subst hv;rfl⟩
    ·simpa [putCells] using hsz
    ·intro i r hi' j v hj
     rw [List.getElem?_map]at hi'
     obtain⟨x,hx,rfl⟩:=Option.map_eq_some_iff.1 hi'
     have hil:i<(Qb7 zs).length:=(List.getElem?_eq_some_iff.1 hx).1
     have hil':i<zs.length:=by rw [Qjs]at hil;exact hil
     match j,hj with
     | 0,hj=>
      cases hj
      refine⟨.int .i64 x,?_,.i _ _⟩
      rw [show i*1+0=i by omega]
      have h1:=hc i zs[i] (List.getElem?_eq_getElem hil')
      have h2:(Qb7 zs).toArray[i]! = x:=by
       have:=List.getElem?_eq_some_iff.1 hx
       obtain⟨h3,h4⟩:=this
       simp [h3,h4]
      simp only [putCells,Array.getElem?_mapIdx,h1,Option.map_some]
      rw [if_pos ⟨by omega,by simp;omega⟩,show B.off+i-B.off=i by omega,h2]
     | j+1,hj=>simp [rowI]at hj
   ·rw [Qn _ _ e]at h;cases h
def Qsi (s:ByteArray):Bool:=decide (s.size<4294967281)&&s.data.toList.all fun b=>decide (b.toNat<128)
def Qfq (s:ByteArray):List ByteArray:=(Lib.fields s.data.toList).map fun l=>⟨l.toArray⟩
theorem QrC {P:Program}{ρ:Ren}(Ly:Lays.n157 P ρ)(hi9:(P.info? (ρ.t 9)).map (fun i=>(i.zero,i.size,i.bytes))=some (some (.string ByteArray.empty),1,16))(hg:P.globalNamed "strings.asciiSpace" = some (ρ.g 0))(s:ByteArray)(hs:Qsi s=true):
  Qc P (ρ.f 157) [.s s] [] (Gives (.own 30000 (Qfq s).length) [(30000,.arr 1 ((Qfq s).map fun x=>[V.s x]))]):=by
 intro S φ w vals hi hG
 have hsz:=hi.size
 obtain⟨v0,hv0⟩:∃v0,vals=#[v0]:=by
  obtain⟨l⟩:=vals
  match l,hsz with
  | [x],_=>exact⟨x,rfl⟩
 subst hv0
 have ha:=(hi.args 0 v0 _ rfl rfl).s_inv
 subst ha
 unfold Qsi at hs
 rw [Bool.and_eq_true,decide_eq_true_iff,List.all_eq_true]at hs
 obtain⟨hs1,hs2⟩:=hs
 obtain⟨_,hl,hT⟩:=hG _ hg
 have hno:∀o B,φ o≠some B:=fun o B h=>by obtain⟨_,_,ob,hob⟩:=hi.dom o B h;cases hob
 refine(Any.strings_Fields_core Ly hi9 s w hs1 (fun j b hb=>by simpa using hs2 b (List.mem_of_getElem? hb)) hT).mono ?_
 rintro e w' ⟨rfl,rfl⟩
 have hlen:(Lib.fields s.data.toList).length=(Qfq s).length:=by unfold Qfq;simp
 rw [hlen]
 generalize hO:Obj.cells ((Lib.fields s.data.toList).map fun l=>Value.string ⟨l.toArray⟩).toArray (ρ.t 9)=O
 have hme:(w.alloc O).heap[w.heap.size]? = some O:=World.alloc_heap_new _ _
 have hold:∀k,k<w.heap.size→(w.alloc O).heap[k]? = w.heap[k]? := fun k hk=>Below.heap_alloc w O k hk
 have hsize:(w.alloc O).heap.size=w.heap.size+1:=by simp
 have hφ:∀o B,(ext (fun _=>none) 30000 ⟨w.heap.size,(Qfq s).length,1,[],0⟩) o=some B→o=30000∧B=⟨w.heap.size,(Qfq s).length,1,[],0⟩:=fun o B h=>by
  unfold ext at h
  split at h
  ·rename_i e;exact⟨e,(Option.some.inj h).symm⟩
  ·cases h
 have hhas:∀k,(⟨w.heap.size,(Qfq s).length,1,[],0⟩:Blk).has k→k=w.heap.size:=fun k hk=>Qlt hk
 refine⟨_,.own 30000 (Qfq s).length,[(30000,.arr 1 ((Qfq s).map fun x=>[V.s x]))],ext (fun _=>none) 30000 ⟨w.heap.size,(Qfq s).length,1,[],0⟩,rfl,⟨rfl,fun c ob h=>h⟩,rfl,rfl,rfl,by rw [hsize];omega,fun k hk _=>hold k hk,fun o o' B B' k h1 h2 _ _=>by rw [(hφ o B h1).1,(hφ o' B' h2).1],fun o B h=>?_,fun o B k h hk=>?_,fun o B k h hk _=>?_,⟨fun o B h1 h2=>by obtain⟨rfl,_⟩:=hφ o B h2;omega,fun o ob B _ h2 h3=>absurd h3 (hno o B)⟩,.own _ _ _ (QM _ _ _) (Nat.le_refl _),fun o ob h=>?_⟩
 ·rw [(hφ o B h).1];exact⟨_,Qq _ _ _⟩
 ·obtain⟨_,rfl⟩:=hφ o B h
  have:=hhas k hk
  rw [hsize];exact⟨by omega,fun h=>by omega⟩
 ·obtain⟨_,rfl⟩:=hφ o B h
  have:=hhas k hk;omega
 ·by_cases e:30000=o
  ·subst e
   rw [Qq]at h;cases h
   refine .inl ⟨_,QM _ _ _,rfl,by simp,fun r hr=>?_,_,_,by rw [hme,←hO],by rw [←hlen];simp,fun i r hi' j v hj=>?_⟩
   ·obtain⟨x,_,rfl⟩:=List.mem_map.1 hr
    exact⟨rfl,fun v hv=>by simp at hv;subst hv;rfl⟩
   ·rw [List.getElem?_map]at hi'
    obtain⟨x,hx,rfl⟩:=Option.map_eq_some_iff.1 hi'
    match j,hj with
    | 0,hj=>
     cases hj
     refine⟨.string x,?_,.s _⟩
     unfold Qfq at hx
     rw [List.getElem?_map]at hx
     obtain⟨l,hl',rfl⟩:=Option.map_eq_some_iff.1 hx
     simp [hl']
    | j+1,hj=>simp at hj
  ·rw [Qn _ _ e]at h;cases h
section
variable {P:Program}{C:Ctx}{σ:St}{o:Oper}
theorem Stp.storeNil {T b i off z zz:Nat}{x y:Operand}{rs rs':List (List V)}{r:List V}(ho:o.op=.store T x y)(hd:o.dst=none)(hx:σ.opd x=some (.loc b i off))
  (hb:look σ.hp b=some (.arr z rs)) (hi:rs[i]? = some r) (hy:σ.opd y=some (.lit (.slice none 0 0))) (hs:Qfy P T=some 1) (hle:Nat.ble (off+1) z=true) (he:rs.set i (QbG r off [.sl zz []])=rs'):Stp P C o σ (σ.set b (.arr z rs')):=
 Stp.storeAV (v:=.sl zz []) ho hd hx hb hi (fun φ a w hr=>by rw [(hr.opd hy).lit_inv];exact .dat (.sl0 none 0 zz)) (.inl rfl) hs rfl rfl rfl hle he
theorem Stp.max3 {d:Nat}{x y z:Operand}{k:IntKind}{m n q:Int}{ts:Array TypeId}(ho:o.op=.call { callee:=.builtin .max,args:=#[x,y,z],argTypes:=ts })(hd:o.dst=some d)(hn:Nat.ble (d+1) C.n=true)
  (hx:σ.opd x=some (.i k m)) (hy:σ.opd y=some (.i k n)) (hz:σ.opd z=some (.i k q)):Stp P C o σ (σ.put d (.i k (Vm.max2 (Vm.max2 m n) q))):=by
 refine Stp.same hd hn fun φ a w hr=>⟨.int k (Vm.max2 (Vm.max2 m n) q),?_,.dat (.i _ _)⟩
 simp [execOp,ho,(hr.opd hx).i_inv,(hr.opd hy).i_inv,(hr.opd hz).i_inv,resolve,invoke,builtin,Builtin.max_,Builtin.max2,Vm.max2]
end
end Go.Vm
