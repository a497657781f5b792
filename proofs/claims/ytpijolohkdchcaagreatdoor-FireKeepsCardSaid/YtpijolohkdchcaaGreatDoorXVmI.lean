/- A part of the proof; what it holds is told at each theorem. -/
import Derived.Test.YtpijolohkdchcaaGreatDoorXVmH
set_option linter.unusedVariables false
set_option linter.unusedSimpArgs false
set_option linter.unusedSectionVars false
set_option linter.deprecated false
namespace Go.Vm
open Go Go.RowKit
theorem QrY {P:Program}{T U ty e e':TypeId}{base:Option Addr}{n c:Nat}{x:Value}{w:World}{i:TypeInfo}(hT:P.underlying T=some (.slice e))(hU:P.underlying U=some (.slice e'))(hi:P.info? e=some i):
  (Builtin.append_ #[T,U] ty #[.slice base n c,x]).run P w=(Builtin.append_ #[T,T] ty #[.slice base n c,x]).run P w:=by
 unfold Builtin.append_
 simp only [List.getElem?_toArray,List.getElem?_cons_zero,List.getElem?_cons_succ,Sem.run_bind,run_underlying hT,Result.andThen_ok,sizeOf,typeInfo,run_program,hi,Sem.run_pure,run_underlying hU]
theorem Qmk {P:Program}{T ty e:TypeId}{w:World}{i:TypeInfo}(hT:P.underlying T=some (.slice e))(hi:P.info? e=some i)(base a:Option Addr)(n cap c:Nat)(hle:n≤cap):
  (Builtin.append_ #[T,T] ty #[.slice base n cap,.slice a 0 c]).run P w=.ok (.slice base n cap) w:=by
 cases base<;>cases a<;>simp [Builtin.append_,run_underlying hT,sizeOf,typeInfo,hi,Builtin.lenOf,hle,Builtin.firstCells,loadCells,loadCellsFrom,storeCells]
theorem Qqd {P:Program}{T ty e E:TypeId}{w:World}{i:TypeInfo}(hT:P.underlying T=some (.slice e))(hi:P.info? e=some i)(g off sLen sCap:Nat)(cur:Array Value)(hg:w.heap[g]? = some (.cells cur E (0,0)))
  (a:Addr) (m c:Nat) (news:List Value) (hl:news.length=m*i.size) (hnews:∀(j:Nat) u,news[j]? = some u→w.cell? (a.add j)=some u) (h1:∀u∈news,u.oneCell'=true)
  (hroom:sLen+m≤sCap) (hfit:off+sLen*i.size+news.length≤cur.size):
  (Builtin.append_ #[T,T] ty #[.slice (some ⟨g,off,none⟩) sLen sCap,.slice (some a) m c]).run P w =
   .ok (.slice (some ⟨g,off,none⟩) (sLen+m) sCap) (w.setRow g (cur.toList.take (off+sLen*i.size)++news++cur.toList.drop (off+sLen*i.size+news.length)).toArray):=by
 have hf:(Builtin.firstCells i.size m (.slice (some a) m c)).run P w=.ok news.toArray w:=by
  have:=run_loadCells_list (P:=P) w a news hnews
  rw [hl]at this
  simpa [Builtin.firstCells] using this
 have hst:=run_storeCells_at P g (off+sLen*i.size) E news 0 cur w hg (by simpa using hfit) h1
 simp only [Nat.add_zero]at hst
 simp [Builtin.append_,run_underlying hT,sizeOf,typeInfo,hi,Builtin.lenOf,hroom,hf,Addr.add_lit,hst]
section
variable {P:Program}{C:Ctx}{σ:St}{o:Oper}
def St.app (σ:St)(b z d n:Nat)(rs:List (List V)):St:=((σ.kill b).set b (.arr z rs)).put d (.own b n)
theorem RR.moved {φ:Nat→Option Blk}{a:Act}{w:World}(hr:RR C φ σ a w){b cap z:Nat}{E:TypeId}{cells:Array Value}{rs:List (List V)}(hb:b<200000)(w':World)
  (hw:w'=w.drew.alloc (.cells cells E)) (hrep:QaC (Imm C φ w) w' ⟨w.heap.size,cap,z,[],0⟩ z rs):
  RR C (ext (del φ b) b ⟨w.heap.size,cap,z,[],0⟩) ((σ.kill b).set b (.arr z rs)) a w':=by
 subst hw
 have hk:=hr.kill b
 have hk':RR C (del φ b) (σ.kill b) a w.drew:=hk.step rfl rfl rfl (Nat.le_refl _) (fun _ _=>rfl)
 have hnone:look (σ.kill b).hp b=none:=by
  cases h:look (σ.kill b).hp b with
  | none=>rfl
  | some ob=>exact absurd rfl (Qce _ _ _ h).1
 refine hk'.alloc (cap:=cap) (z:=z) hnone hb ?_
 refine QaC.mono (w:=w.drew.alloc (.cells cells E)) ?_ rfl hrep
 intro k hk2
 refine⟨?_,rfl⟩
 have:=hk'.imm_alloc b cap z (.cells cells E) (QrX _ _) k ⟨hk2.1,hk2.2.1,fun o B hB=>hk2.2.2 o B (Qbj hB).2⟩
 exact this.1
theorem RR.reset {φ:Nat→Option Blk}{a:Act}{w:World}(h:RR C φ σ a w)(b:Nat)(ob:Ob)(hex:∃ob0,look σ.hp b=some ob0)(hob:(∃B,φ b=some B∧Qbi φ (Imm C φ w) w B ob)∨(φ b=none∧∃z,ob=.arr z [])):
  RR C φ ((σ.kill b).set b ob) a w:=by
 have hI:∀k,Imm C φ w k→Imm C φ w k∧w.heap[k]? = w.heap[k]? := fun k hk=>⟨hk,rfl⟩
 have hφ:∀o B,o≠b→φ o=some B→φ o=some B:=fun _ _ _ h=>h
 refine⟨h.os,h.tape,h.output,h.size,h.kept,h.inj,?_,h.lt,h.new,⟨h.stay.1,fun o ob' B hge ho hB=>by
  by_cases e:o=b
  ·subst e;obtain⟨ob0,h0⟩:=hex;exact h.stay.2 o ob0 B hge h0 hB
  ·rw [St.look_set_other _ _ (Ne.symm e)]at ho;obtain⟨_,ob2,h2,_⟩:=Qce _ _ _ ho;exact h.stay.2 o ob2 B hge h2 hB⟩,h.tmps,h.defers,?_,?_⟩
 ·intro o B hB
  by_cases e:o=b
  ·subst e;exact⟨ob,St.look_set_same _ _ _⟩
  ·obtain⟨ob',h'⟩:=h.dom o B hB
   exact⟨_,by rw [St.look_set_other _ _ (Ne.symm e)];exact QeI _ _ _ e h'⟩
 ·intro t v hv
  obtain⟨v',hv',rfl⟩:=QkK _ _ _ hv
  obtain⟨x,hx,hr⟩:=h.frame t v' hv'
  exact⟨x,hx,hr.kill hφ hI⟩
 ·intro o ob' hob'
  by_cases e:o=b
  ·subst e;rw [St.look_set_same]at hob';cases hob';exact hob
  ·rw [St.look_set_other _ _ (Ne.symm e)]at hob'
   obtain⟨hne,ob2,hob2,rfl⟩:=Qce _ _ _ hob'
   rcases h.heap o ob2 hob2 with⟨B,hB,hr⟩|⟨h1,z,rfl⟩
   ·exact .inl ⟨B,hB,hr.kill hφ hI fun _ _=>rfl⟩
   ·exact .inr ⟨h1,z,rfl⟩
theorem St.set_kill (σ:St)(b:Nat)(ob:Ob):(σ.set b ob).kill b=σ.kill b:=by
 simp [St.set,St.kill,Qd7]
theorem Qms {I:Nat→Prop}{w:World}{z n:Nat}{rs us:List (List V)}{olds news rest:List Value}(hnl:rs.length=n)(hol:olds.length=n*z)(hok:∀r∈rs,QjA z r)(huk:∀r∈us,QjA z r)(hul:news.length=us.length*z)
  (ho:∀(i:Nat) r,rs[i]? = some r→∀(j:Nat) v,r[j]? = some v→∃u,olds[i*z+j]? = some u∧Dat I w u v)
  (hu:∀(i:Nat) r,us[i]? = some r→∀(j:Nat) v,r[j]? = some v→∃u,news[i*z+j]? = some u∧Dat I w u v):
  (∀r∈rs++us,QjA z r)∧∀(i:Nat) r,(rs++us)[i]? = some r→∀(j:Nat) v,r[j]? = some v→∃u,(olds++(news++rest))[i*z+j]? = some u∧Dat I w u v:=by
 refine⟨fun r hr=>?_,fun i r hi j v hj=>?_⟩
 ·rcases List.mem_append.1 hr with h | h
  ·exact hok r h
  ·exact huk r h
 ·by_cases hin:i<n
  ·rw [List.getElem?_append_left (by omega)]at hi
   obtain⟨u,h1,h2⟩:=ho i r hi j v hj
   exact⟨u,by rw [List.getElem?_append_left (List.getElem?_eq_some_iff.1 h1).1];exact h1,h2⟩
  ·rw [List.getElem?_append_right (by omega)]at hi
   obtain⟨u,h1,h2⟩:=hu _ r hi j v hj
   have e:i*z+j=olds.length+((i-rs.length)*z+j):=by
    have:i*z=n*z+(i-n)*z:=by rw [←Nat.add_mul];congr 1;omega
    rw [hol,hnl];omega
   refine⟨u,?_,h2⟩
   rw [e,List.getElem?_append_right (by omega),Nat.add_sub_cancel_left,List.getElem?_append_left (List.getElem?_eq_some_iff.1 h1).1]
   exact h1
theorem QsV {T U d e e' z z' by_ by' b n m:Nat}{x y:Operand}{rs us rs':List (List V)}{zs:List V}(ho:o.op=.call { callee:=.builtin .append,args:=#[x,y],argTypes:=#[T,U] })
  (hd:o.dst=some d) (hn:Nat.ble (d+1) C.n=true) (hx:σ.opd x=some (.own b n)) (hb:look σ.hp b=some (.arr z rs)) (hb1:Nat.ble 200000 b=false) (hnl:rs.length=n)
  (hT:Qax P T=some (e,z,by_)) (hU:Qax P U=some (e',z',by')) (hz:Qap P e=some zs) (hzl:zs.length=z) (hz0:z≠0) (hby:by_≤32768) (hsm:n+us.length≤4294967296)
  (hy:∀φ a w,RR C φ σ a w→Qqc φ (Imm C φ w) w (a.eval y) z us) (he:rs++us=rs') (hm:n+us.length=m):∀φ a w,RR C φ σ a w→∃v w' φ',(execOp a.eval o).run P w=.ok (.value v) w'∧RR C φ' (σ.app b z d m rs') (a.put o.dst v) w':=by
 intro φ a w hr
 subst hnl he hm
 obtain⟨hu,i,hi,rfl,rfl⟩:=QbW hT
 obtain⟨hu',_⟩:=QbW hU
 obtain⟨i',zv,hi',hz',hmap⟩:=QgN hz
 rw [hi]at hi';cases hi'
 have hb2:b<200000:=by
  rcases Nat.lt_or_ge b 200000 with h | h
  ·exact h
  ·rw [Nat.ble_eq_true_of_le h]at hb1;cases hb1
 have hzs:zv.cells.size=i.size:=by rw [←hzl,←hmap];simp
 have hpos:0<i.size:=Nat.pos_of_ne_zero hz0
 have hexec:∀base n c v w',a.eval x=.slice base n c→(Builtin.append_ #[T,T] o.type #[.slice base n c,a.eval y]).run P w=.ok v w'→(execOp a.eval o).run P w=.ok (.value v) w':=by
  intro base n c v w' h1 h
  simp only [execOp,ho,resolve,invoke,builtin,Sem.run_bind,Sem.run_pure,Result.andThen_ok,List.map_toArray,List.map_cons,List.map_nil,h1,QrY hu hu' hi,h]
 have hown:=(hr.opd hx).own_inv
 have hbytes:(rs.length+us.length)*i.bytes≤140737488355328:=by
  have:(rs.length+us.length)*i.bytes≤4294967296*32768:=Nat.mul_le_mul hsm hby
  omega
 by_cases h0:us=[]
 ·
  subst h0
  have hsrc:∃p c,a.eval y=.slice p 0 c:=by
   rcases hy φ a w hr with⟨p,c,h,_⟩|⟨p,c,_,h,_⟩
   ·exact⟨p,c,h⟩
   ·exact⟨some p,c,by simpa using h⟩
  obtain⟨p,c,hp⟩:=hsrc
  simp only [List.append_nil,List.length_nil,Nat.add_zero]
  rcases hown with⟨h1,h2⟩|⟨B,hB,hcap,h1⟩
  ·refine⟨.slice none 0 0,w,φ,hexec none 0 0 _ _ h1 (by rw [hp];exact Qmk hu hi none p 0 0 c (Nat.le_refl _)),?_⟩
   have:=hr.reset b (.arr i.size rs) ⟨_,hb⟩ (by
    rcases hr.heap b _ hb with⟨B,hB,hrep⟩|hn
    ·exact .inl ⟨B,hB,hrep⟩
    ·exact .inr hn)
   rw [hd,h2]
   exact this.put (QS hn) (.own0 b)
  ·refine⟨.slice (some ⟨B.b,B.off,none⟩) rs.length B.cap,w,φ,hexec _ _ _ _ _ h1 (by rw [hp];exact Qmk hu hi _ p _ _ c hcap),?_⟩
   have:=hr.reset b (.arr i.size rs) ⟨_,hb⟩ (.inl ⟨B,hB,hr.block hB hb⟩)
   rw [hd]
   exact this.put (QS hn) (.own b _ B hB hcap)
 ·have hpos2:0<us.length:=List.length_pos_iff.2 h0
  obtain⟨p,c,news,hyv,hnews,hcells,hone,hokU,hrowU⟩:∃(p:Addr) (cap:Nat) (news:List Value),a.eval y=.slice (some p) us.length cap∧news.length=us.length*i.size∧(∀(j:Nat) u,news[j]? = some u→w.cell? (p.add j)=some u)∧(∀u∈news,u.oneCell'=true)∧
    (∀r∈us,QjA i.size r)∧∀(k:Nat) r,us[k]? = some r→∀(j:Nat) v,r[j]? = some v→∃u,news[k*i.size+j]? = some u∧Dat (Imm C φ w) w u v:=by
   rcases hy φ a w hr with⟨_,_,_,h⟩|h
   ·exact absurd h h0
   ·exact h
  rcases hown with⟨h1,h2⟩|⟨B,hB,hcap,h1⟩
  ·
   have hrs:rs=[]:=List.eq_nil_of_length_eq_zero h2
   subst hrs
   have hrun:=run_append_nil (P:=P) w T o.type e i zv hu hi hz' p us.length c news hnews hcells hpos2 (by omega) (by
    have:us.length*i.bytes≤140737488355328:=by simpa using hbytes
    omega)
   have hge:=grownCap_ge w us.length 0 e
   simp only [List.nil_append,List.length_nil,Nat.zero_add]
   refine⟨_,_,ext (del φ b) b ⟨w.heap.size,grownCap w us.length 0 e,i.size,[],0⟩,hexec none 0 0 _ _ h1 (by rw [hyv];exact hrun),?_⟩
   rw [hd]
   obtain⟨g1,g2⟩:=Qms (I:=Imm C φ w) (w:=w) (n:=0) (rs:=[]) (olds:=[]) (rest:=(Builtin.zeroCells zv.cells (grownCap w us.length 0 e-us.length)).toList) rfl (by simp) (by simp) hokU hnews (by simp) hrowU
   have hmv:=hr.moved (b:=b) (cap:=grownCap w us.length 0 e) (z:=i.size) (E:=e) (cells:=news.toArray++Builtin.zeroCells zv.cells (grownCap w us.length 0 e-us.length)) (rs:=us) hb2 _ rfl
    (QaC.mk0 rfl rfl hge hokU _ e (heap_alloc_new w.drew _) (by simp [size_zeroCells,hzs,hnews,←Nat.add_mul];congr 1;omega) fun k r hk j v hj=>by
     obtain⟨u,hu1,hu2⟩:=g2 k r (by simpa using hk) j v hj
     refine⟨u,?_,Dat.mono (w:=w) (fun k hk=>⟨hk,Below.heap_alloc w.drew _ _ hk.1⟩) hu2⟩
     rw [←hu1]
     simp [←Array.getElem?_toList])
   exact hmv.put (QS hn) (.own b us.length ⟨w.heap.size,_,i.size,[],0⟩ (QM _ _ _) hge)
  ·obtain⟨hBz,hrl,hok,cs,E,e1,e2,e3⟩:=hr.block hB hb
   have hle2:B.off+rs.length*i.size≤cs.size:=Nat.le_trans (Nat.add_le_add_left (Nat.mul_le_mul_right _ hrl) _) e2
   have hol:((cs.toList.drop B.off).take (rs.length*i.size)).length=rs.length*i.size:=by simp;omega
   have hold:∀(k:Nat) r,rs[k]? = some r→∀(j:Nat) v,r[j]? = some v→∃u,((cs.toList.drop B.off).take (rs.length*i.size))[k*i.size+j]? = some u∧Dat (Imm C φ w) w u v:=fun k r hk j v hj=>by
    obtain⟨u,hu1,hu2⟩:=e3 k r hk j v hj
    have hkl:k<rs.length:=(List.getElem?_eq_some_iff.1 hk).1
    have hjz:j<i.size:=by have:=(List.getElem?_eq_some_iff.1 hj).1;rwa [(hok r (List.mem_of_getElem? hk)).1]at this
    have hlt:k*i.size+j<rs.length*i.size:=by
     have:(k+1)*i.size≤rs.length*i.size:=Nat.mul_le_mul_right _ hkl
     rw [Nat.add_mul]at this;omega
    exact⟨u,by rw [List.getElem?_take,if_pos hlt,List.getElem?_drop];simpa using hu1,hu2⟩
   by_cases hroom:rs.length+us.length≤B.cap
   ·
    have hfit:B.off+rs.length*i.size+news.length≤cs.size:=by
     refine Nat.le_trans ?_ e2;rw [hnews,Nat.add_assoc,←Nat.add_mul];exact Nat.add_le_add_left (Nat.mul_le_mul_right _ hroom) _
    have hrun:=Qqd (P:=P) (ty:=o.type) hu hi B.b B.off rs.length B.cap cs e1 p us.length c news hnews hcells hone hroom hfit
    refine⟨_,_,φ,hexec _ _ _ _ _ h1 (by rw [hyv];exact hrun),?_⟩
    obtain⟨g1,g2⟩:=Qms (I:=Imm C φ w) (w:=w) (n:=rs.length) (rs:=rs) (olds:=(cs.toList.drop B.off).take (rs.length*i.size)) (rest:=cs.toList.drop (B.off+rs.length*i.size+news.length)) rfl
     hol hok hokU hnews hold hrowU
    have hne:∀k,Imm C φ w k→k≠B.b:=fun k hk e=>hk.2.2 b B hB (.inl e)
    have hwr:=hr.write (ob:=.arr i.size (rs++us)) (w':=w.setRow B.b (cs.toList.take (B.off+rs.length*i.size)++news++cs.toList.drop (B.off+rs.length*i.size+news.length)).toArray) hB rfl rfl rfl (by simp)
     (fun k hk=>setRow_other w B.b k _ hk) ⟨hBz,by simpa using hroom,g1,_,E,setRow_heap w B.b cs _ E _ e1,by simp;omega,fun k r hk j v hj=>by
      obtain⟨u,hu1,hu2⟩:=g2 k r hk j v hj
      refine⟨u,by rw [←hu1];simp only [List.getElem?_toArray];rw [List.take_add,List.append_assoc,List.append_assoc,List.getElem?_append_right (by simp;omega)];congr 1;simp;omega,hu2.mono fun k hk=>⟨⟨by simpa using hk.1,hk.2⟩,setRow_other w B.b k _ (hne k hk)⟩⟩⟩
    have hre:=hwr.reset b (.arr i.size (rs++us)) ⟨_,St.look_set_same _ _ _⟩ (.inl ⟨B,hB,hwr.block hB (St.look_set_same _ _ _)⟩)
    rw [St.set_kill]at hre
    rw [hd]
    exact hre.put (QS hn) (.own b _ B hB hroom)
   ·
    have hoc:∀(j:Nat) v,((cs.toList.drop B.off).take (rs.length*i.size))[j]? = some v→w.cell? ((⟨B.b,B.off,none⟩:Addr).add j)=some v:=by
     intro j v hj
     rw [List.getElem?_take]at hj
     by_cases h:j<rs.length*i.size
     ·rw [if_pos h,List.getElem?_drop]at hj
      simp [Addr.add_lit,World.cell?,e1];simpa using hj
     ·rw [if_neg h]at hj;simp at hj
    have hrun:=run_append_grow (P:=P) w T o.type e i zv hu hi hz' ⟨B.b,B.off,none⟩ rs.length B.cap _ hol hoc p us.length c news hnews hcells (by omega) (by omega) (growslice_fits (by omega) hbytes)
    have hge:=grownCap_ge w (rs.length+us.length) B.cap e
    refine⟨_,_,ext (del φ b) b ⟨w.heap.size,grownCap w (rs.length+us.length) B.cap e,i.size,[],0⟩,hexec _ _ _ _ _ h1 (by rw [hyv];exact hrun),?_⟩
    obtain⟨g1,g2⟩:=Qms (I:=Imm C φ w) (w:=w) (n:=rs.length) (rs:=rs) (olds:=(cs.toList.drop B.off).take (rs.length*i.size))
     (rest:=(Builtin.zeroCells zv.cells (grownCap w (rs.length+us.length) B.cap e-(rs.length+us.length))).toList) rfl hol hok hokU hnews hold hrowU
    have hmv:=hr.moved (b:=b) (cap:=grownCap w (rs.length+us.length) B.cap e) (z:=i.size) (E:=e)
     (cells:=((cs.toList.drop B.off).take (rs.length*i.size)).toArray++news.toArray++Builtin.zeroCells zv.cells (grownCap w (rs.length+us.length) B.cap e-(rs.length+us.length))) (rs:=rs++us) hb2 _ rfl
     (QaC.mk0 rfl rfl (by simpa using hge) g1 _ e (heap_alloc_new w.drew _) (by
      simp only [Array.size_append,List.size_toArray,hol,hnews,size_zeroCells,hzs,←Nat.add_mul];congr 1;omega) fun k r hk j v hj=>by
      obtain⟨u,hu1,hu2⟩:=g2 k r hk j v hj
      refine⟨u,?_,Dat.mono (w:=w) (fun k hk=>⟨hk,Below.heap_alloc w.drew _ _ hk.1⟩) hu2⟩
      rw [←hu1,←Array.getElem?_toList]
      simp [List.append_assoc])
    rw [hd]
    exact hmv.put (QS hn) (.own b _ ⟨w.heap.size,_,i.size,[],0⟩ (QM _ _ _) hge)
theorem Stp.append {T U d e e' z z' by_ by' b n m:Nat}{x y:Operand}{rs us rs':List (List V)}{zs:List V}(ho:o.op=.call { callee:=.builtin .append,args:=#[x,y],argTypes:=#[T,U] })
  (hd:o.dst=some d) (hn:Nat.ble (d+1) C.n=true) (hx:σ.opd x=some (.own b n)) (hb:look σ.hp b=some (.arr z rs)) (hb1:Nat.ble 200000 b=false) (hnl:rs.length=n)
  (hT:Qax P T=some (e,z,by_)) (hU:Qax P U=some (e',z',by')) (hz:Qap P e=some zs) (hzl:zs.length=z) (hz0:z≠0) (hby:by_≤32768) (hsm:n+us.length≤4294967296)
  (hy:∀φ a w,RR C φ σ a w→Qqc φ (Imm C φ w) w (a.eval y) z us) (he:rs++us=rs') (hm:n+us.length=m):Stp P C o σ (σ.app b z d m rs'):=
 Stp.val (QsV ho hd hn hx hb hb1 hnl hT hU hz hzl hz0 hby hsm hy he hm)
end
end Go.Vm
