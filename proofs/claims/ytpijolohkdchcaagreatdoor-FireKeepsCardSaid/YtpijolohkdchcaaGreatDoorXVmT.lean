/- A part of the proof; what it holds is told at each theorem. -/
import Derived.Test.YtpijolohkdchcaaGreatDoorXVmS
set_option linter.unusedVariables false
set_option linter.unusedSimpArgs false
set_option linter.unusedSectionVars false
set_option linter.deprecated false
namespace Go.Vm
open Go Go.RowKit
def grpV {κ:Type}(e:κ→V)(l:List (κ×List (List V))):List (V×List (List V)):=l.map fun p=>(e p.1,p.2)
section
variable {P:Program}{K:TypeId}{κ:Type}[DecidableEq κ]{e:κ→V}{val:κ→Value}{I:Nat→Prop}{w:World}{B:Blk}{l:List (κ×List (List V))}{z:Nat}{out:Option V}
theorem Qqj (he:∀a b,e a=e b→a=b):((grpV e l).map Prod.fst).Nodup↔(l.map Prod.fst).Nodup:=by
 have:(grpV e l).map Prod.fst=(l.map Prod.fst).map e:=by simp [grpV]
 rw [this]
 constructor
 ·intro h;exact(List.pairwise_map.1 h).imp fun hab e'=>hab (by rw [e'])
 ·intro h;exact List.pairwise_map.2 (h.imp fun hab e'=>hab (he _ _ e'))
def Qr2 (I:Nat→Prop)(w:World)(z:Nat)(e:κ→V)(val:κ→Value)(out:Option V)(l:List (κ×List (List V)))(x:MapEntry)(E:Option Blk):Prop:=
 ∃q∈l,x.key=val q.1∧((∃F,E=some F∧F.more=[]∧out≠some (e q.1)∧QaC I w F z q.2∧x.val=.slice (some ⟨F.b,F.off,none⟩) q.2.length F.cap)∨(E=none∧out=some (e q.1)))
theorem Qdz.find (hk:Qgb P K e val){D:TypeDesc}(hD:P.underlying K=some D)(h:Qdz I w B z (grpV e l) out)(k:κ):∃(es:Array MapEntry) (clock:Nat) (bs:List (Option Blk)),w.heap[B.b]? = some (.map es clock)∧MapKept.Stamped es clock∧(l.map Prod.fst).Nodup∧
  es.size=l.length∧bs.length=l.length∧B.more=bs.filterMap (Option.map Blk.b)∧(B.b::B.more).Nodup∧MapKept.IsKey D (val k)∧
  (∀(i:Nat) x E,es[i]? = some x→bs[i]? = some E→Qr2 I w z e val out l x E)∧(∀q∈l,∃(i:Nat) (x:MapEntry),es[i]? = some x∧x.key=val q.1)∧
  ((mget l k=none∧Instr.findNow D (val k) es.toList 0=some none∧∀x∈es.toList,x.key≠val k)∨
   ∃j x E rs,mget l k=some rs∧Instr.findNow D (val k) es.toList 0=some (some (j,x.val))∧es[j]? = some x∧bs[j]? = some E∧x.key=val k∧∀i y,es[i]? = some y→y.key=val k→i=j):=by
 obtain⟨es,clock,h1,h2,h3,h4,bs,h5,h6,h7,h8,h9⟩:=h
 obtain⟨D',hD',hK⟩:=hk.d
 rw [hD]at hD';cases hD'
 have hn:=(Qqj hk.einj).1 h3
 have hl:(grpV e l).length=l.length:=by simp [grpV]
 have hrow:∀(i:Nat) x E,es[i]? = some x→bs[i]? = some E→Qr2 I w z e val out l x E:=fun i x E hi hE=>by
  obtain⟨p,hp,a1,a2⟩:=h8 i x E hi hE
  obtain⟨q,hq,rfl⟩:=List.mem_map.1 hp
  exact⟨q,hq,hk.inv _ _ _ _ a1,a2⟩
 have hbs:∀i x,es[i]? = some x→∃E,bs[i]? = some E:=fun i x hi=>by
  have hlt:i<bs.length:=by rw [h5,←h4];exact(Array.getElem?_eq_some_iff.1 hi).1
  exact⟨_,List.getElem?_eq_getElem hlt⟩
 have hks:∀x∈es.toList,MapKept.IsKey D x.key:=fun x hx=>by
  obtain⟨i,hi⟩:=List.mem_iff_getElem?.1 hx
  rw [Array.getElem?_toList]at hi
  obtain⟨E,hE⟩:=hbs i x hi
  obtain⟨q,_,e1,_⟩:=hrow i x E hi hE
  rw [e1];exact hK _
 refine⟨es,clock,bs,h1,h2,hn,by rw [h4,hl],by rw [h5,hl],h6,h7,hK k,hrow,fun q hq=>?_,?_⟩
 ·obtain⟨i,x,hi,a1⟩:=h9 _ (List.mem_map.2 ⟨q,hq,rfl⟩)
  exact⟨i,x,hi,hk.inv _ _ _ _ a1⟩
 rcases MapKept.findNow_spec (hK k) es.toList 0 hks with⟨g1,g2⟩|⟨j,x,g1,g2,g3⟩
 ·refine .inl ⟨?_,g1,g2⟩
  cases hg:mget l k with
  | none=>rfl
  | some rs=>
   obtain⟨i,x,hi,a1⟩:=h9 (e k,rs) (List.mem_map.2 ⟨(k,rs),QpD hg,rfl⟩)
   exact absurd (hk.inv _ _ _ _ a1) (g2 x (List.mem_iff_getElem?.2 ⟨i,by rw [Array.getElem?_toList];exact hi⟩))
 ·have g2':es[j]? = some x:=by simpa using g2
  obtain⟨E,hE⟩:=hbs j x g2'
  obtain⟨⟨a,rs⟩,hm,e1,_⟩:=hrow j x E g2' hE
  have:a=k:=hk.inj _ _ (by rw [←e1,g3])
  subst this
  refine .inr ⟨j,x,E,rs,Qpy hn hm,by simpa using g1,g2',hE,g3,fun i y hy hyk=>?_⟩
  have i1:(es.toList.map (·.key))[i]? = some (val a):=by simp [List.getElem?_map,hy,hyk]
  have i2:(es.toList.map (·.key))[j]? = some (val a):=by simp [List.getElem?_map,g2',g3]
  exact(List.getElem?_inj (by simpa using (Array.getElem?_eq_some_iff.1 hy).1) h2.2.2).1 (i1.trans i2.symm)
theorem Qdz.of (hk:Qgb P K e val){es:Array MapEntry}{clock:Nat}{bs:List (Option Blk)}(h1:w.heap[B.b]? = some (.map es clock))(h2:MapKept.Stamped es clock)(h3:(l.map Prod.fst).Nodup)(h4:es.size=l.length)
  (h5:bs.length=l.length) (h6:B.more=bs.filterMap (Option.map Blk.b)) (h7:(B.b::B.more).Nodup) (h8:∀(i:Nat) x E,es[i]? = some x→bs[i]? = some E→Qr2 I w z e val out l x E)
  (h9:∀q∈l,∃(i:Nat) (x:MapEntry),es[i]? = some x∧x.key=val q.1):Qdz I w B z (grpV e l) out:=by
 have hl:(grpV e l).length=l.length:=by simp [grpV]
 refine⟨es,clock,h1,h2,(Qqj hk.einj).2 h3,by rw [h4,hl],bs,by rw [h5,hl],h6,h7,fun i x E hi hE=>?_,fun p hp=>?_⟩
 ·obtain⟨q,hq,a1,a2⟩:=h8 i x E hi hE
  exact⟨_,List.mem_map.2 ⟨q,hq,rfl⟩,by rw [a1];exact hk.dat _ _ _,a2⟩
 ·obtain⟨q,hq,rfl⟩:=List.mem_map.1 hp
  obtain⟨i,x,hi,a1⟩:=h9 q hq
  exact⟨i,x,hi,by rw [a1];exact hk.dat _ _ _⟩
end
section
variable {P:Program}{C:Ctx}{σ:St}{o:Oper}{φ:Nat→Option Blk}{a:Act}{w:World}{ops:Array Oper}{c:Code}{Q:Exit→St→Prop}
theorem RR.say' (h:RR C φ σ a w){b:Nat}{ob ob':Ob}(hb:look σ.hp b=some ob)(hs:∀B,φ b=some B→Qbi φ (Imm C φ w) w B ob→Qbi φ (Imm C φ w) w B ob')(hne:∀z,ob≠.arr z []):RR C φ (σ.set b ob') a w:=by
 refine⟨h.os,h.tape,h.output,h.size,h.kept,h.inj,fun o B hB=>?_,h.lt,h.new,h.stay.set hb,h.tmps,h.defers,h.frame,fun o ob2 hob=>?_⟩
 ·by_cases e:o=b
  ·subst e;exact⟨_,σ.look_set_same _ _⟩
  ·obtain⟨ob,h1⟩:=h.dom o B hB;exact⟨ob,by rw [σ.look_set_other _ (Ne.symm e)];exact h1⟩
 ·by_cases e:o=b
  ·subst e;rw [σ.look_set_same]at hob;cases hob
   rcases h.heap o _ hb with⟨B,hB,hr⟩|⟨_,z,h2⟩
   ·exact .inl ⟨B,hB,hs B hB hr⟩
   ·exact absurd h2 (hne z)
  ·rw [σ.look_set_other _ (Ne.symm e)]at hob;exact h.heap o ob2 hob
def nilZ (P:Program)(T:TypeId):Bool:=match P.info? T with
 | some i=>match i.zero with
  | some (.slice none 0 0)=>true
  | _=>false
 | none=>false
theorem Qui {T:TypeId}(h:nilZ P T=true):∃i,P.info? T=some i∧i.zero=some (.slice none 0 0):=by
 unfold nilZ at h
 split at h
 ·rename_i i hi
  split at h
  ·rename_i hz;exact⟨i,hi,hz⟩
  ·cases h
 ·cases h
theorem QjD.sl {T:TypeId}{z:Nat}(h:nilZ P T=true):QjD P T (.sl z []):=let ⟨i,h1,h2⟩:=Qui h;⟨i,_,h1,h2,fun _ _=>.sl0 _ _ _⟩
theorem QjD.one {T:TypeId}{v:Value}(hi:((P.info? T).bind (·.zero))=some v):QjD P T (Qfm v):=by
 obtain⟨i,h1,h2⟩:=Option.bind_eq_some_iff.1 hi
 exact⟨i,v,h1,h2,fun _ _=>Dat.const v⟩
end
section
variable {P:Program}{C:Ctx}{σ:St}{o:Oper}{a:Act}{w:World}
end
end Go.Vm
