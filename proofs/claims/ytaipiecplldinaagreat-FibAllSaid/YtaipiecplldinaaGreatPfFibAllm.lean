/- The law FibAll holds: whatever is changed, whatever fails, and wherever the power goes: mounted a fib has the table behind the last batch that was done, or, of one that was cut, or for which there was no place, behind that, too; any key finds what that table tells. It holds of all arguments that can be read; its arguments read behind the call as they did. -/
import Derived.Test.YtaipiecplldinaaGreatG6
import Derived.Test.YtaipiecplldinaaGreatG1
import Derived.ProofKit
import Derived.Deep.Slices
import Derived.HandedShaped
import Derived.Test.YtaipiecplldinaaGreatG3
import Derived.Test.YtaipiecplldinaaGreatG2
import Derived.Test.YtaipiecplldinaaGreatG5
import Derived.Test.YtaipiecplldinaaGreatRows
set_option maxRecDepth 20000
set_option linter.unusedSimpArgs false
set_option linter.unusedVariables false
namespace Go.Proofs.YtaipiecplldinaaGreat
open Go.ay Go.Kb
open Go.RowKit
structure FH where
 f:cC
 h:Sl Rt
def HM(x:FH):Array Value:= #[.int .i64 x.f.an.ag.ae, .int .i64 x.f.an.ag.size,x.f.an.ag.blocks.sv.val, .int .i64 x.f.an.ag.ops, .bool x.f.an.ag.off,x.f.an.ag.aX.sv.val,x.f.an.at_.sv.val, .int .u64 x.f.an.gen.toNat, .int .i64 x.f.an.last,x.f.table.sv.val,x.h.sv.val]
instance:bp HM 11:=⟨fun _=>rfl,fun x=>by
 simp only[HM,List.all_toArray,List.all_cons,List.all_nil,Sv.one,oq,ot,Bool.and_self]⟩
instance:Deep FH where
 c:=11
 cells:=HM
 size:=bp.size
 one:=bp.one
 aZ h x:=Deep.aZ h x.f∧Deep.aZ h x.h
 bT x:= .two (Deep.bT x.f) (Deep.bT x.h)
 fM h x hs:=⟨Deep.fM h x.f hs.1,Deep.fM h x.h hs.2.1⟩
 mono w w' x hg hb:=⟨Deep.mono w w' x.f hg.1 hb,Deep.mono w w' x.h hg.2 hb⟩
instance:dz FH where
 reach x k:=dz.reach x.f k∨dz.reach x.h k
 congr h h' x e hg:=⟨dz.congr h h' x.f (fun k hk=>e k (.inl hk)) hg.1,dz.congr h h' x.h (fun k hk=>e k (.inr hk)) hg.2⟩
instance {w0:World}{L:List ak}{x:FH}[q:aW w0 L x]:aW w0 L x.h:=⟨fun w hw=>(q.h w hw).2⟩
theorem aaH{w0 w:World}{L:List ak}{f:cC}{a:Sl Rt}(h:Mem w0 (fz f::fz a::L) w):Mem w0 (fz (⟨f,a⟩:FH)::L) w:=by
 refine Mem.freeze (es:=[fz f,fz a]) (⟨f,a⟩:FH) ⟨h.sat (fz f) (by simp),h.sat (fz a) (by simp)⟩ (fun k hk=> ?_) h
 rcases hk with hk|hk
 ·
  exact⟨fz f,by simp,hk⟩
 ·
  exact⟨fz a,by simp,hk⟩
theorem aaI{w0 w:World}{L:List ak}{f:cC}(h:Mem w0 (fz f::L) w):Mem w0 (fz (⟨f,f.table⟩:FH)::L) w:=by
 refine Mem.freeze (es:=[fz f]) (⟨f,f.table⟩:FH) ⟨h.sat (fz f) (by simp),(h.sat (fz f) (by simp)).2⟩ (fun k hk=> ?_) h
 rcases hk with hk|hk
 ·
  exact⟨fz f,by simp,hk⟩
 ·
  exact⟨fz f,by simp, .inr hk⟩
theorem aaJ{w0 w:World}{L:List ak}{f:cC}(h:Mem w0 (fz f::L) w):Mem w0 (fz (⟨f,⟨Sv.none,[]⟩⟩:FH)::L) w:=
 aaH ((vw (a:=⟨Sv.none,[]⟩) (Mem.dQ ax 19 h)).perm (List.Perm.swap _ _ _))
end Go.Proofs.YtaipiecplldinaaGreat
namespace Go.Kb
open Go.ay
theorem OK{P Q:Nat→Bool}{j0:Nat}(hp:P j0=false)(hq: ∀j,Q j=(P j||decide (j=j0))): ∀n,((List.range n).filter Q).length=((List.range n).filter P).length+(if j0<n then 1 else 0)
 |0=>by simp
 |n+1=>by
  have ih:=OK hp hq n
  rw[List.range_succ,List.filter_append,List.filter_append,List.length_append,List.length_append,ih]
  by_cases e:n=j0
  ·
   have h1:Q n=true:=by rw[hq n,decide_eq_true e,Bool.or_true]
   have h2:P n=false:=by rw[e];exact hp
   rw[List.filter_cons_of_pos h1,List.filter_cons_of_neg (by rw[h2];simp),if_neg (by omega),if_pos (by omega)];simp
  ·
   have h1:Q n=P n:=by rw[hq n,decide_eq_false e,Bool.or_false]
   have h2:([n].filter Q).length=([n].filter P).length:=by simp[List.filter_cons,h1]
   rw[h2]
   by_cases h:j0<n
   ·
    rw[if_pos h,if_pos (by omega)];omega
   ·
    rw[if_neg h,if_neg (by omega)];omega
def fm(ae:Int)(fl:List Int)(i:Nat):Nat:=((List.range ae.toNat).filter fun j:Nat=>fl.contains (((i:Int)+2)*ae+j+1)).length
theorem yb{ae:Int}{fl gl:List Int}{i:Nat}(h: ∀n:Int,(n -1)/ae=(i:Int)+2→(n∈fl↔n∈gl))(hp:1≤ae):fm ae fl i=fm ae gl i:=by
 rw[fm,fm]
 congr 1
 refine List.filter_congr fun j hj=> ?_
 have jt:=List.mem_range.1 hj
 have hd:(((i:Int)+2)*ae+j+1 -1)/ae=(i:Int)+2:=by
  rw[Int.add_sub_cancel,Int.add_comm,Int.add_mul_ediv_right _ _ (by omega),Int.ediv_eq_zero_of_lt (by omega) (by omega),Int.zero_add]
 rw[Bool.eq_iff_iff,List.contains_iff_mem,List.contains_iff_mem]
 exact h _ hd
theorem aaK{ae n:Int}(hp:1≤ae){i:Nat}(hb:(n -1)/ae=(i:Int)+2): ∃j:Nat,j<ae.toNat∧n=((i:Int)+2)*ae+j+1∧(n -1)%ae=j:=by
 have h0:0≤(n -1)%ae:=Int.emod_nonneg _ (by omega)
 have h1:(n -1)%ae<ae:=Int.emod_lt_of_pos _ (by omega)
 have h2:=Int.mul_ediv_add_emod (n -1) ae
 rw[hb,Int.mul_comm]at h2
 exact⟨((n -1)%ae).toNat,by omega,by omega,by omega⟩
theorem HN{ae n:Int}{fl gl:List Int}{i0:Nat}(hp:1≤ae)(hb:(n -1)/ae=(i0:Int)+2)(hn:n∉fl)(h: ∀m,m∈gl↔m∈fl∨m=n)(i:Nat):fm ae gl i=fm ae fl i+(if i=i0 then 1 else 0):=by
 by_cases e:i=i0
 ·
  subst e
  obtain⟨j0,hj0,en,_⟩:=aaK hp hb
  rw[if_pos rfl,fm,fm]
  have:=OK (P:=fun j:Nat=>fl.contains (((i:Int)+2)*ae+j+1)) (Q:=fun j:Nat=>gl.contains (((i:Int)+2)*ae+j+1)) (j0:=j0) (by
   rw[←en]
   cases hc:fl.contains n with
   |false=>rfl
   |true=>exact absurd (List.contains_iff_mem.1 hc) hn) (fun j=>by
   rw[Bool.eq_iff_iff,Bool.or_eq_true,List.contains_iff_mem,List.contains_iff_mem,decide_eq_true_eq,h,en]
   constructor
   ·
    rintro(g|g)
    ·
     exact .inl g
    ·
     exact .inr (by omega)
   ·
    rintro(g|g)
    ·
     exact .inl g
    ·
     exact .inr (by rw[g])) ae.toNat
  rw[if_pos hj0]at this;exact this
 ·
  rw[if_neg e,Nat.add_zero]
  refine yb (fun m hm=> ?_) hp
  rw[h]
  constructor
  ·
   rintro(g|g)
   ·
    exact g
   ·
    rw[g,hb]at hm;omega
  ·
   exact .inl
theorem OL{ae:Int}{l:List Int}(hp:1≤ae)(i:Nat)(h: ∀n∈l,n=0∨1≤n): ∀k,k≤l.length→mV ae l k i=fm ae (l.take k) i
 |0,_=>by
  rw[fm,List.filter_eq_nil_iff.2 (fun j _=>by simp)];simp[mV]
 |k+1,hk=>by
  have ih:=OL hp i h k (by omega)
  obtain⟨y,hy⟩: ∃y,l[k]? =some y:=⟨_,List.getElem?_eq_getElem (by omega)⟩
  have lf: ∀m,m∈l.take (k+1)↔m∈l.take k∨m=y:=fun m=>by
   rw[List.take_add_one,hy,List.mem_append];simp
  rw[BT,ih,oz hy]
  have oK:oA l k=(decide (y≠0)&& !(l.take k).contains y):=by rw[oA,oz hy]
  by_cases h0:y=0
  ·
   rw[oK,decide_eq_false (fun g=>g h0),Bool.false_and,Bool.false_and,if_neg (by simp),Nat.add_zero]
   refine yb (fun m hm=> ?_) hp
   rw[lf]
   refine⟨.inl,fun g=>g.elim id fun g=> ?_⟩
   exfalso
   rw[g,h0]at hm
   have:((0:Int) -1)/ae<0:=Int.ediv_neg_of_neg_of_pos (by decide) (by omega)
   omega
  ·
   by_cases hc:(l.take k).contains y=true
   ·
    rw[oK,hc,Bool.not_true,Bool.and_false,Bool.false_and,if_neg (by simp),Nat.add_zero]
    refine yb (fun m _=> ?_) hp
    rw[lf]
    exact⟨.inl,fun g=>g.elim id fun g=>by rw[g];exact List.contains_iff_mem.1 hc⟩
   ·
    have hn:y∉l.take k:=fun g=>hc (List.contains_iff_mem.2 g)
    have hcf:(l.take k).contains y=false:=by simpa using hc
    rw[oK,hcf,decide_eq_true h0,Bool.not_false,Bool.and_self,Bool.true_and]
    by_cases hb:(y -1)/ae=(i:Int)+2
    ·
     rw[decide_eq_true hb,if_pos rfl,HN hp hb hn lf i,if_pos rfl]
    ·
     rw[decide_eq_false hb,if_neg (by simp),Nat.add_zero]
     refine yb (fun m hm=> ?_) hp
     rw[lf]
     exact⟨.inl,fun g=>g.elim id fun g=>by rw[g]at hm;exact absurd hm hb⟩
theorem OM{ae:Int}{l:List Int}(hp:1≤ae)(i:Nat)(h: ∀n∈l,n=0∨1≤n):mV ae l l.length i=fm ae l i:=by
 have:=OL hp i h l.length (Nat.le_refl _)
 rwa [List.take_length]at this
def Std(c:CV)(fl:List Int):Prop:= ∀n∈fl,n≠0→jS c (n -1)=true
theorem Pl.pO{c:CV}{a:List Int}(h:Pl c a):Std c a:=fun _ hn h0=>h.place hn h0
theorem Std.append{c:CV}{a b:List Int}(h:Std c a)(g:Std c b):Std c (a++b):=fun n hn=>(List.mem_append.1 hn).elim (h n) (g n)
theorem Std.pos{c:CV}{fl:List Int}(h:Std c fl)(hp:1≤c.ae): ∀n∈fl,n=0∨1≤n:=fun n hn=>by
 by_cases h0:n=0
 ·
  exact .inl h0
 ·
  right
  have:=(mU.1 (h n hn h0)).1
  apply Classical.byContradiction
  intro bx
  have:(n -1)/c.ae<0:=Int.ediv_neg_of_neg_of_pos (by omega) (by omega)
  omega
theorem Std.kd{c d:CV}{fl L:List Int}(h:Std c fl)(k:Kd L c d)(hs: ∀n∈fl,n∈L):Std d fl:=fun n hn h0=>(k.nm n (hs n hn) h0 (h n hn h0)).1
def lA(c:CV)(fl:List Int)(i:Nat):aA:=if(aj c ((i:Int)+2)).bad=true then bc else⟨fm c.ae fl i,(aj c ((i:Int)+2)).used,(aj c ((i:Int)+2)).aS,false⟩
theorem vX{c:CV}{fl:List Int}(hp:1≤c.ae)(h:Std c fl):aB c fl=(List.range (c.blocks.length -2)).map (lA c fl):=by
 rw[aB,iH,jD,List.map_map]
 refine List.map_congr_left fun i _=> ?_
 simp only[Function.comp]
 rw[OM hp i (h.pos hp),mW,lA,q8]
 split
 ·
  rfl
 ·
  rename_i hb
  have:(aj c ((i:Int)+2)).bad=false:=by simpa using hb
  rw[this]
theorem ON{c:CV}{fl:List Int}(hp:1≤c.ae)(h:Std c fl)(i:Nat)(hu:0≤(aj c ((i:Int)+2)).used):(fm c.ae fl i:Int)≤(aj c ((i:Int)+2)).used:=by
 have lB: ∀j,j∈(List.range c.ae.toNat).filter (fun j:Nat=>fl.contains (((i:Int)+2)*c.ae+j+1))→j<(aj c ((i:Int)+2)).used.toNat:=fun j hj=>by
  obtain⟨h1,h2⟩:=List.mem_filter.1 hj
  have jt:=List.mem_range.1 h1
  have hm:=List.contains_iff_mem.1 h2
  have h0:0≤((i:Int)+2)*c.ae:=Int.mul_nonneg (by omega) (by omega)
  have bE:=mU.1 (h _ hm (by omega))
  have hd:(((i:Int)+2)*c.ae+j+1 -1)/c.ae=(i:Int)+2:=by
   rw[Int.add_sub_cancel,Int.add_comm,Int.add_mul_ediv_right _ _ (by omega),Int.ediv_eq_zero_of_lt (by omega) (by omega),Int.zero_add]
  have pe:(((i:Int)+2)*c.ae+j+1 -1)%c.ae=j:=by
   rw[Int.add_sub_cancel,Int.add_comm,Int.add_mul_emod_self_right,Int.emod_eq_of_lt (by omega) (by omega)]
  rw[hd,pe]at bE
  omega
 have key: ∀(n m:Nat) (P:Nat→Bool),(∀j,j∈(List.range n).filter P→j<m)→((List.range n).filter P).length≤m:=by
  intro n m P
  induction n generalizing m with
  |zero=>intro _;simp
  |succ n ih=>
   intro hs
   rw[List.range_succ,List.filter_append,List.length_append]
   by_cases hP:P n=true
   ·
    have hm:n<m:=hs n (List.mem_filter.2 ⟨List.mem_range.2 (by omega),hP⟩)
    have:=ih n fun j hj=>List.mem_range.1 (List.mem_filter.1 hj).1
    simp only[List.filter_cons,List.filter_nil,hP,if_true,List.length_cons,List.length_nil]
    omega
   ·
    have:=ih m fun j hj=>hs j (by rw[List.range_succ,List.filter_append];exact List.mem_append_left _ hj)
    simp only[List.filter_cons,List.filter_nil,hP]
    simpa using this
 have:=key c.ae.toNat (aj c ((i:Int)+2)).used.toNat _ lB
 rw[fm];omega
theorem Aq{c:CV}{fl:List Int}(hp:1≤c.ae)(h:Std c fl)(i:Nat):fm c.ae fl i=0↔k7 fl c ((i:Int)+2):=by
 constructor
 ·
  intro h0
  rw[←OM hp i (h.pos hp)]at h0
  exact N7 h0
 ·
  intro hd
  rw[fm,List.length_eq_zero_iff,List.filter_eq_nil_iff]
  intro j hj hc
  have jt:=List.mem_range.1 hj
  have hm:=List.contains_iff_mem.1 hc
  have h0:0≤((i:Int)+2)*c.ae:=Int.mul_nonneg (by omega) (by omega)
  refine hd _ hm (by omega) ?_
  rw[Int.add_sub_cancel,Int.add_comm,Int.add_mul_ediv_right _ _ (by omega),Int.ediv_eq_zero_of_lt (by omega) (by omega),Int.zero_add]
theorem HO{c d:CV}{fl gl:List Int}{i0:Nat}{x:aA}(hp:1≤c.ae)(h:Std c fl)(hg:Std d gl)(hk:dL c d)(ho: ∀i:Nat,i≠i0→aj d ((i:Int)+2)=aj c ((i:Int)+2)∧fm c.ae gl i=fm c.ae fl i)(hx:lA d gl i0=x):aB d gl=(aB c fl).set i0 x:=by
 rw[vX (by rw[hk.ae];exact hp) hg,vX hp h,hk.len]
 refine List.ext_getElem? fun i=> ?_
 rw[List.getElem?_set]
 by_cases e:i0=i
 ·
  subst e
  rw[if_pos rfl,List.length_map,List.length_range,List.getElem?_map]
  by_cases hi:i0<c.blocks.length -2
  ·
   rw[List.getElem?_range hi,if_pos hi,Option.map_some,hx]
  ·
   rw[if_neg hi,List.getElem?_eq_none (by simpa using hi)];rfl
 ·
  rw[if_neg e,List.getElem?_map,List.getElem?_map]
  by_cases hi:i<c.blocks.length -2
  ·
   rw[List.getElem?_range hi,Option.map_some,Option.map_some]
   obtain⟨o1,o2⟩:=ho i (fun g=>e g.symm)
   rw[lA,lA,o1,hk.ae,o2]
  ·
   rw[List.getElem?_eq_none (by simpa using hi)];rfl
theorem aaL{c d:CV}{fl gl:List Int}(hp:1≤c.ae)(h:Std c fl)(hg:Std d gl)(hk:dL c d)(ho: ∀i:Nat,(aj d ((i:Int)+2)).bad=(aj c ((i:Int)+2)).bad∧(aj d ((i:Int)+2)).used=(aj c ((i:Int)+2)).used∧(aj d ((i:Int)+2)).aS=(aj c ((i:Int)+2)).aS∧((aj c ((i:Int)+2)).bad=false→fm c.ae gl i=fm c.ae fl i)):aB d gl=aB c fl:=by
 rw[vX (by rw[hk.ae];exact hp) hg,vX hp h,hk.len]
 refine List.map_congr_left fun i _=> ?_
 obtain⟨o1,o2,o3,o4⟩:=ho i
 rw[lA,lA,o1,o2,o3,hk.ae]
 by_cases hb:(aj c ((i:Int)+2)).bad=true
 ·
  rw[if_pos hb,if_pos hb]
 ·
  rw[if_neg hb,if_neg hb,o4 (by simpa using hb)]
theorem Du{c:CV}{fl:List Int}{i:Nat}{x:aA}(hp:1≤c.ae)(h:Std c fl)(hx:(aB c fl)[i]? =some x):x=lA c fl i∧i<c.blocks.length -2:=by
 rw[vX hp h,List.getElem?_map]at hx
 obtain⟨j,hj,rfl⟩:=Option.map_eq_some_iff.1 hx
 obtain⟨hl,e⟩:=List.getElem?_eq_some_iff.1 hj
 rw[List.getElem_range]at e
 rw[List.length_range]at hl
 exact⟨by rw[e],hl⟩
theorem oP{c:CV}{fl:List Int}{i:Nat}(hb:(aj c ((i:Int)+2)).bad=false):lA c fl i=⟨fm c.ae fl i,(aj c ((i:Int)+2)).used,(aj c ((i:Int)+2)).aS,false⟩:=by rw[lA,if_neg (by rw[hb];simp)]
theorem aaM{c:CV}{fl:List Int}(hk:aT c=true)(h:Std c fl)(h2:3≤c.blocks.length):ky (aB c fl) c.ae=true:=by
 have hd:=eH hk
 have dF:=kf c fl
 refine qi.2 ⟨by omega,by omega,by omega,by omega,fun x hx=> ?_⟩
 obtain⟨i,hi⟩:=List.getElem?_of_mem hx
 obtain⟨rfl,fC⟩:=Du (by omega) h hi
 have pq:cN=1099511627776:=rfl
 rw[lA]
 split
 ·
  exact pn.2 (by simp only[bc];omega)
 ·
  have hb:=eX.1 (rb hk (b:=(i:Int)+2) (by omega) (by omega))
  have:=ON (by omega) h i hb.2.1
  exact pn.2 ⟨by simp only;omega,this,hb.2.2.1,hb.2.2.2.1,hb.2.2.2.2.1⟩
theorem OO{R:aA→Bool}{l:List aA}{p:Int}(h:ky l p=true):ky (bZ R l) p=true:=by
 obtain⟨h1,h2,h3,h4,h5⟩:=qi.1 h
 refine qi.2 ⟨by rw[tz];exact h1,by rw[tz];exact h2,h3,h4,fun x hx=> ?_⟩
 obtain⟨y,hy,rfl⟩:=List.mem_map.1 hx
 rw[iQ]
 split
 ·
  have pq:cN=1099511627776:=rfl
  exact pn.2 (by simp only[bc];omega)
 ·
  exact h5 y hy
theorem aaN{l:List aA}{p:Int}(h:ky l p=true)(i:Nat):ky (l.set i bc) p=true:=by
 obtain⟨h1,h2,h3,h4,h5⟩:=qi.1 h
 refine qi.2 ⟨by rw[List.length_set];exact h1,by rw[List.length_set];exact h2,h3,h4,fun x hx=> ?_⟩
 rcases List.mem_or_eq_of_mem_set hx with g|rfl
 ·
  exact h5 x g
 ·
  have pq:cN=1099511627776:=rfl
  exact pn.2 (by simp only[bc];omega)
theorem OP{c:CV}{b k:Int}{p:List UInt8}(h:bm c b p=0)(hk:k.toNat≠b.toNat):aj (bj c b p) k=aj c k:=by
 obtain⟨h1,_,_,_,e⟩:=nK h
 obtain⟨_,h3,h4⟩:=fv.1 (iF.1 h1).1
 rw[e,eM,mz (by omega),if_neg hk]
theorem Dv{c:CV}{b:Int}{p:List UInt8}(h:bm c b p=0):(aj (bj c b p) b).used=(aj c b).used+1∧(aj (bj c b p) b).aS=(aj c b).aS∧(aj (bj c b p) b).bad=false:=by
 obtain⟨h1,_,h3,_,e⟩:=nK h
 rw[e,eM,oB (iF.1 h1).1]
 exact⟨rfl,rfl,h3⟩
theorem aaO{c:CV}{fl gl:List Int}{i0:Nat}{pg:List UInt8}(hk:aT c=true)(h:Std c fl)(hz:bm c ((i0:Int)+2) pg=0)(hm: ∀m,m∈gl↔m∈fl∨m=((i0:Int)+2)*c.ae+(aj c ((i0:Int)+2)).used+1):
  aB (bj c ((i0:Int)+2) pg) gl=(aB c fl).set i0 ⟨fm c.ae fl i0+1,(aj c ((i0:Int)+2)).used+1,(aj c ((i0:Int)+2)).aS,false⟩∧Std (bj c ((i0:Int)+2) pg) gl:=by
 have hd:=eH hk
 have di:=gm c ((i0:Int)+2) pg
 obtain⟨q1,q2,q3,q4⟩:=Di (L:=fl) (by omega) hz
 have eA:=iF.1 (nK hz).1
 have hb:(((i0:Int)+2)*c.ae+(aj c ((i0:Int)+2)).used+1 -1)/c.ae=(i0:Int)+2:=by
  rw[Int.add_sub_cancel,Int.add_comm,Int.add_mul_ediv_right _ _ (by omega),Int.ediv_eq_zero_of_lt eA.2.1 eA.2.2.1,Int.zero_add]
 have hn:((i0:Int)+2)*c.ae+(aj c ((i0:Int)+2)).used+1∉fl:=fun gU=>by
  have:=h _ gU (by omega)
  rw[Int.add_sub_cancel,q4]at this;cases this
 have hS:Std (bj c ((i0:Int)+2) pg) gl:=fun m pe h0=>by
  rcases(hm m).1 pe with g|g
  ·
   exact h.kd (pL (L:=fl)) (fun _ k=>k) m g h0
  ·
   rw[g,Int.add_sub_cancel];exact q1
 have hl:=HN (by omega) hb hn hm
 obtain⟨a1,a2,a3⟩:=Dv hz
 refine⟨HO (by omega) h hS di (fun i hi=>⟨OP hz (by omega),by rw[hl i,if_neg hi];rfl⟩) ?_,hS⟩
 rw[oP a3,di.ae,hl i0,if_pos rfl,a1,a2];rfl
theorem OQ: ∀(n:Nat) {c:CV} {b:Int},(fg n c b).2=0→(∀k:Int,k.toNat≠b.toNat→aj (fg n c b).1 k=aj c k)∧(aj (fg n c b).1 b).used=0∧(aj (fg n c b).1 b).aS=(aj c b).aS+1∧(aj (fg n c b).1 b).bad=false
 |0,c,b,h=>by
  obtain⟨e1,_,e3,e4,e5⟩:=FF h
  have hh:=(nE.1 e1).1
  obtain⟨_,h3,h4⟩:=fv.1 hh
  show(∀k:Int,k.toNat≠b.toNat→aj (dh c b) k=aj c k)∧(aj (dh c b) b).used=0∧(aj (dh c b) b).aS=(aj c b).aS+1∧(aj (dh c b) b).bad=false
  rw[e5]
  refine⟨fun k hk=>by rw[gF,mz (by omega),if_neg hk],?_⟩
  rw[gF,oB hh,e4]
  exact⟨rfl,rfl,e3⟩
 |n+1,c,b,h=>by
  rw[fg]at h⊢
  by_cases h0:bm c b (gQ c)≠0
  ·
   rw[if_pos h0]at h;exact absurd h h0
  ·
   rw[if_neg h0]at h⊢
   have nC:bm c b (gQ c)=0:=by simpa using h0
   obtain⟨g1,g2,g3,g4⟩:=OQ n h
   exact⟨fun k hk=>(g1 k hk).trans (OP nC hk),g2,by rw[g3,(Dv nC).2.1],g4⟩
theorem HP{c:CV}{fl:List Int}{i0:Nat}(hk:aT c=true)(h:Std c fl)(hd:k7 fl c ((i0:Int)+2))(hz:(cG c ((i0:Int)+2)).2=0):aB (cG c ((i0:Int)+2)).1 fl=(aB c fl).set i0 ⟨0,0,(aj c ((i0:Int)+2)).aS+1,false⟩∧Std (cG c ((i0:Int)+2)).1 fl:=by
 have hdm:=eH hk
 have kp:=vS (L:=fl) (c:=c) (b:=(i0:Int)+2) (by omega) hd
 have hS:=h.kd kp.toKd fun _ g=>g
 obtain⟨z1,z2,z3,z4⟩:=OQ _ hz
 change∀k:Int,k.toNat≠((i0:Int)+2).toNat→aj (cG c ((i0:Int)+2)).1 k=aj c k at z1
 change(aj (cG c ((i0:Int)+2)).1 ((i0:Int)+2)).used=0 at z2
 change(aj (cG c ((i0:Int)+2)).1 ((i0:Int)+2)).aS=_ at z3
 change(aj (cG c ((i0:Int)+2)).1 ((i0:Int)+2)).bad=false at z4
 refine⟨HO (by omega) h hS kp.cx (fun i hi=>⟨z1 _ (by omega),rfl⟩) ?_,hS⟩
 rw[oP z4,kp.cx.ae,z2,z3,(Aq (by omega) h i0).2 hd];rfl
open Go.ay
structure Ok(n:Nat)(c:CV):Prop where
 ok:fx c=true
 nb: ∀b:Int,(aj c b).bad=false
 off:c.off=false
 cut: ∀f∈c.aX,f.fail=true→f.cut=true
 ops:c.ops+n<cN
 aS: ∀b:Int,(aj c b).aS+n<cN
theorem Ok.ag{n:Nat}{c:CV}(h:Ok n c):aT c=true:=(eo.1 h.ok).1
theorem ajv{c:CV}(h:fx c=true):((gQ c).length:Int)=c.size:=by
 obtain⟨h1,_,_,h4⟩:=eo.1 h
 have hd:=eH h1
 have hf:me c.size=true:=rY.2 ⟨h4,by omega⟩
 exact Hr (vb.2 ⟨hf, .inl rfl,by decide,by decide,by show(0:Nat)<_;omega,by rw[dM,if_pos hf];simp only[List.length_nil];omega⟩)
structure HQ(c:CV)(g:Nat)(a:List Int):Prop where
 gen:g+1<281474976710656
 len:(a.length:Int)≤iP c.size
 num: ∀x∈a,0≤x∧x≤65535
theorem HQ.put{c:CV}{g:Nat}{a:List Int}(h:HQ c g a)(hb:fx c=true):(cj ⟨g+1,a⟩ c.size).2=0∧((cj ⟨g+1,a⟩ c.size).1.length:Int)=c.size:=by
 obtain⟨h1,_,_,h4⟩:=eo.1 hb
 have hd:=eH h1
 have hf:me c.size=true:=rY.2 ⟨h4,by omega⟩
 have hm:lM ⟨g+1,a⟩ c.size=true:=tu.2 ⟨by rw[dM,if_pos hf];omega,h.gen,h.len,fun x hx=>zk.2 (h.num x hx)⟩
 refine⟨?_,NT hm⟩
 rw[cj,if_pos hm,dr,if_pos (Hu hm)]
theorem aaP{c:CV}{last:Int}(hl:last=0∨last=1)(i:Nat):aj (aV c last).1 ((i:Int)+2)=aj c ((i:Int)+2):=by
 rw[aV]
 split
 ·
  rfl
 ·
  split
  ·
   rfl
  ·
   split
   ·
    rfl
   ·
    show aj (dh c (1 -last)) ((i:Int)+2)=_
    rw[dh,gk]
    split
    ·
     rw[iO]
     split
     ·
      rename_i hm
      have hh:fu (eN c (1 -last)) (1 -last)=true:=by
       cases hq:fu (eN c (1 -last)) (1 -last)with
       |true=>rfl
       |false=>rw[jR,if_neg (by rw[hq];simp)]at hm;cases hm
      obtain⟨_,h3,h4⟩:=fv.1 hh
      have:=mz (c:=eN c (1 -last)) (o:=(eN c (1 -last)).ops) (f:=(eN c (1 -last)).off) (B:={aj (eN c (1 -last)) (1 -last)with bad:=true}) (show(1 -last).toNat<(eN c (1 -last)).blocks.length by omega) ((i:Int)+2)
      rw[if_neg (by omega)]at this
      rw[this,xY (by omega)]
     ·
      rw[xY (by omega)]
    ·
     rw[xY (by omega)]
open Go.ay
def nj(p:Int)(x:aA):Nat:=if x.bad=true then 0 else if x.live=0 then(if 0<x.used∧x.used<p then 1 else 0)else(x.used -x.live).toNat
def pP(p:Int)(l:List aA):Nat:=(l.map (nj p)).sum
theorem OR{f:aA→Nat}: ∀{l:List aA} {i:Nat} {x y:aA},l[i]? =some y→((l.set i x).map f).sum+f y=(l.map f).sum+f x
 |[],i,x,y,h=>by simp at h
 |z::r,0,x,y,h=>by
  obtain rfl:z=y:=by simpa using h
  simp only[List.set_cons_zero,List.map_cons,List.sum_cons];omega
 |z::r,i+1,x,y,h=>by
  have:=OR (f:=f) (l:=r) (i:=i) (x:=x) (y:=y) (by simpa using h)
  simp only[List.set_cons_succ,List.map_cons,List.sum_cons];omega
theorem HR{p:Int}{l:List aA}{i:Nat}{x y:aA}(h:l[i]? =some y):pP p (l.set i x)+nj p y=pP p l+nj p x:=OR h
theorem OS(l:List aA): ∀k,0<(gp l k).2→(gp l k).1.toNat<k∧(l.getD (gp l k).1.toNat du).bad=false∧(l.getD (gp l k).1.toNat du).live≠0∧(gp l k).2=(l.getD (gp l k).1.toNat du).used -(l.getD (gp l k).1.toNat du).live
 |0,h=>by simp[gp]at h
 |k+1,h=>by
  have ih:=OS l k
  rw[gp,vo]at h⊢
  by_cases h1:(l.getD k du).bad=true∨(l.getD k du).live=0∨cN≤(l.getD k du).aS
  ·
   rw[if_pos h1]at h⊢
   obtain⟨i1,i2⟩:=ih h
   exact⟨by omega,i2⟩
  ·
   rw[if_neg h1]at h⊢
   by_cases h2:(gp l k).2<(l.getD k du).used -(l.getD k du).live
   ·
    rw[if_pos h2]
    simp only[Int.toNat_natCast]
    exact⟨by omega,by
     cases hb:(l.getD k du).bad with
     |false=>rfl
     |true=>exact absurd (.inl hb) h1,fun g=>h1 (.inr (.inl g)),trivial⟩
   ·
    rw[if_neg h2]at h⊢
    obtain⟨i1,i2⟩:=ih h
    exact⟨by omega,i2⟩
theorem OT{R:aA→Bool}{x:aA}(h:x.bad=false)(hR:R x=true):iQ R x=x:=by
 rw[iQ,if_neg]
 rintro(g|g)
 ·
  rw[h]at g;cases g
 ·
  rw[hR]at g;cases g
theorem OU{α:Type}{l:List α}{i:Nat}{x:α}(h:l[i]? =some x):l.set i x=l:=tt h
open Go.ay
structure Lv(n:Nat)(x:WV):Prop where
 ok:Ok n x.v.ag
 wr:cf x
 rt:dw x.v
 pl:fa x.v.ag
 nL:(x.v.at_.length:Int)≤iP x.v.ag.size
 half:2*(x.v.at_.length:Int)≤((x.v.ag.blocks.length:Int) -4)*x.v.ag.ae
 idle: ∃j,j<x.v.ag.blocks.length -2∧fm x.v.ag.ae x.v.at_ j=0
def vY(x:WV):Nat:=pP x.v.ag.ae (aB x.v.ag x.v.at_)
open Go.ay
open Go.ay
theorem aaQ{p:Int}(hp:p≤16){l:List aA}(h: ∀x∈l,x.used≤p∧0≤x.live):pP p l≤16*l.length:=by
 unfold pP
 induction l with
 |nil=>simp
 |cons z r ih=>
  have:=ih fun x hx=>h x (List.mem_cons_of_mem _ hx)
  have hz:=h z List.mem_cons_self
  rw[List.map_cons,List.sum_cons,List.length_cons]
  have:nj p z≤16:=by
   rw[nj];split
   ·
    omega
   ·
    split
    ·
     split<;>omega
    ·
     omega
  omega
theorem HS{x:WV}(h:cf x):vY x≤480:=by
 have hd:=eH h.ag
 have:=aaQ hd.2.2.2.1 (l:=aB x.v.ag x.v.at_) fun z hz=>by
  have t:=tC h.ag hz
  exact⟨t.w8,t.FB⟩
 rw[kf]at this
 unfold vY;omega
theorem Dw{l:List aA}{j:Nat}{x:aA}(h:l[j]? =some x)(hb:x.bad=false)(hl:x.live=0):1≤fP l:=by
 rw[fP]
 refine List.length_pos_of_mem (a:=x) (List.mem_filter.2 ⟨List.mem_of_getElem? h,?_⟩)
 rw[hb,hl];rfl
theorem aaR{l:List aA}(h:1≤fP l): ∃(j:Nat) (x:aA),l[j]? =some x∧x.bad=false∧x.live=0:=by
 obtain⟨x,hx⟩:=List.exists_mem_of_length_pos (show 0<_ from h)
 obtain⟨h1,h2⟩:=List.mem_filter.1 hx
 simp only[Bool.and_eq_true,Bool.not_eq_true',decide_eq_true_eq]at h2
 obtain⟨j,hj⟩:=List.getElem?_of_mem h1
 exact⟨j,x,hj,h2.1,h2.2⟩
open Go.ay
structure Items(v:VV)(l:List (Int×List UInt8)):Prop where
 ne:l.Pairwise fun p q=>p.1≠q.1
 it: ∀x∈l,0≤x.1∧x.1<v.at_.length∧(x.2.length:Int)≤dM v.ag.size
 len:l.length≤v.at_.length
theorem aaS{n:Nat}{f:FV}(h:fJ f)(k:Ok n f.an.ag)(hp:fa f.an.ag)(hi: ∃j,j<f.an.ag.blocks.length -2∧fm f.an.ag.ae f.an.at_ j=0):Lv n ⟨f.an,false⟩:=by
 have hG:=h.ids
 have hc:dm f.an.ag≤iP f.an.ag.size∧dm f.an.ag≤qq f.an.ag.blocks.length f.an.ag.ae/2:=by rw[dm,ru];omega
 have hl:qq f.an.ag.blocks.length f.an.ag.ae≤((f.an.ag.blocks.length:Int) -4)*f.an.ag.ae:=by
  have h4:=(eo.1 h.rt.bears).2.1
  have hd:=eH k.ag
  rw[qq];split
  ·
   exact Int.mul_nonneg (by omega) (by omega)
  ·
   exact Int.le_refl _
 exact⟨k,vr (xZ.2 h.rt),h.rt,hp,by show(f.an.at_.length:Int)≤iP f.an.ag.size;omega,by show 2*(f.an.at_.length:Int)≤((f.an.ag.blocks.length:Int) -4)*f.an.ag.ae;omega,hi⟩
open Go.ay
def jY(n p:Nat):CV×Int:=nD ((n:Int)+5) ((p:Int)+2) 64
def nk(n p:Nat):FV×Int:=iU (jY n p).1
def Dx(f:FV):Bool:=gy f&&decide (f.table=[])&&f.an.ag.blocks.all (fun b=> !b.bad&&decide (b.aS=0))&&decide (f.an.ag.ops≤10)&& !f.an.ag.off&&decide (f.an.ag.aX=[])&&decide (f.an.gen≤10)&&f.an.at_.all (fun n=>decide (n=0))&&decide (eQ (fj f) (fI f [])=[])
def Dy(n p:Nat):Bool:=decide ((jY n p).2=0)&&decide ((nk n p).2=0)&&Dx (nk n p).1&&aT (jY n p).1&&decide ((nk n p).1.an.ag.blocks.length=n+5)&&decide ((nk n p).1.an.ag.ae=(p:Int)+2)&&decide ((nk n p).1.an.ag.size=64)
theorem HU: ∀n,n<8→ ∀p,p<7→Dy n p=true:=by decide+kernel
open Go.ay
structure Rm(k:Nat)(f:FV):Prop where
 fb:fJ f
 lv:Lv k ⟨f.an,false⟩
 fB:f.an.ag.aX=[]
 off:f.an.ag.off=false
 gen:f.an.gen+k<281474976710656
 can:eQ (fj f) (fI f [])=[]
 nL:(f.table.length:Int)≤dG f.an.ag
theorem aaT{f:FV}(h:Dx f=true):Rm 1000000000 f∧f.table=[]:=by
 simp only[Dx,Bool.and_eq_true,decide_eq_true_eq,List.all_eq_true,Bool.not_eq_true']at h
 obtain⟨⟨⟨⟨⟨⟨⟨⟨h1,h2⟩,h3⟩,h4⟩,h5⟩,h6⟩,h7⟩,h8⟩,h9⟩:=h
 have rI:=vW.1 h1
 have pq:cN=1099511627776:=rfl
 have ei: ∀b:Int,(aj f.an.ag b).bad=false∧(aj f.an.ag b).aS=0:=fun b=>by
  rcases Nat.lt_or_ge b.toNat f.an.ag.blocks.length with hl|hl
  ·
   have hm:aj f.an.ag b∈f.an.ag.blocks:=by
    simp only[aj,List.getD,List.getElem?_eq_getElem hl,Option.getD_some];exact List.getElem_mem hl
   exact h3 _ hm
  ·
   simp only[aj,List.getD,List.getElem?_eq_none hl,Option.getD_none];exact⟨rfl,rfl⟩
 have h4l:4≤(f.an.ag.blocks.length:Int):=(eo.1 rI.rt.bears).2.1
 have hp:2≤f.an.ag.ae:=(eo.1 rI.rt.bears).2.2.1
 have bR:Ok 1000000000 f.an.ag:=⟨rI.rt.bears,fun b=>(ei b).1,h5,(by rw[h6];exact fun x hx=>absurd hx List.not_mem_nil),by omega,fun b=>by rw[(ei b).2];omega⟩
 refine⟨⟨rI,aaS rI bR (.nil h6) ⟨0,by omega,?_⟩,h6,h5,Nat.lt_of_le_of_lt (Nat.add_le_add_right h7 _) (by decide),h9,?_⟩,h2⟩
 ·
  refine(Aq (by omega) rI.rt.pl.pO 0).2 fun k hk rX=> ?_
  exact absurd (h8 k hk) rX
 ·
  rw[h2]
  have hm:=rI.gI
  have:0≤dG f.an.ag:=by
   rw[dG,kD,gI];split
   ·
    omega
   ·
    rename_i g
    have hi:=F9 f.an.ag
    have h0:0≤dM f.an.ag.size/20:=by omega
    have h1:0≤ru f.an.ag.blocks.length f.an.ag.ae f.an.ag.size*(dM f.an.ag.size/20):=Int.mul_nonneg (by omega) h0
    omega
  simpa using this
theorem aaU{n p:Nat}(hn:n<8)(hp:p<7):(jY n p).2=0∧aT (jY n p).1=true∧(nk n p).2=0∧Rm 1000000000 (nk n p).1∧(nk n p).1.table=[]∧dG (nk n p).1.an.ag=kD ((n:Int)+5) ((p:Int)+2) 64:=by
 have h:=HU n hn p hp
 simp only[Dy,Bool.and_eq_true,decide_eq_true_eq]at h
 obtain⟨⟨⟨⟨⟨⟨h1,h2⟩,h3⟩,h4⟩,h5⟩,h6⟩,h7⟩:=h
 obtain⟨g1,g2⟩:=aaT h3
 refine⟨h1,h4,h2,g1,g2,?_⟩
 rw[dG,h5,h6,h7];rfl
def nT(t:List Rt)(l:List Ch)(m:Int):Int:=if eu t l=0∧m<(cQ t l).length then 5 else eu t l
end Go.Kb
namespace Go.ay
open Go.Kb
variable {t ts:List Rt} {k:Key} {bits:Int} {p:cU}
open Go.Kb
variable {t ts:List Rt} {k:Key} {bits:Int} {p:cU} {r:Rt}
open Go.Kb
variable {t ts:List Rt} {p:cU}
open Go.Kb
variable {t u:List Ch} {p:cU} {r:Ch}
open Go.Kb
variable {t u v:List Rt} {p:cU} {l:List Ch}
def HV(t:List Rt)(p:cU):Option Rt:=t.find? fun x=>decide (x.p=p)
theorem aaV:HV t p=none↔ ∀x∈t,x.p≠p:=by
 unfold HV
 rw[List.find?_eq_none]
 exact⟨fun h x hx=>by simpa using h x hx,fun h x hx=>by simpa using h x hx⟩
theorem BK{a:cU}(ha:cZ a=true)(h: ∀x∈t,dR a x.p=true):HV t a=none:=aaV.2 fun x hx e=>by
 have:=h x hx
 rw[e,xp ha]at this;cases this
end Go.ay
namespace Go.Kb
open Go.ay
theorem OV{p:List UInt8}{l:List (List UInt8)}(h:po l=0)(hp:p∈l):iJ p=0:=by
 have:=(HG (p:=p) l 0).2 hp
 change iJ p≤po l at this
 omega
theorem aaW(c:CV)(n:Nat):(List.replicate n (0:Int)).map (dY c)=List.replicate n []:=by
 rw[List.map_replicate];rfl
theorem aaX(n:Nat):iT (List.replicate n [])=0∧ij (List.replicate n [])=[]:=by
 have hu: ∀n,fT (List.replicate n [])=some []:=fun n=>by
  induction n with
  |zero=>rfl
  |succ n ih=>
   rw[List.replicate_succ,fT,FX,ih];rfl
 rw[iT,ij,hu]
 exact⟨rfl,rfl⟩
open Go.ay
open Go.ay
structure Cs(k:Int)(c d:CV):Prop where
 ops:d.ops≤c.ops+k
 aS: ∀b:Int,(aj d b).aS -(aj c b).aS≤d.ops -c.ops
theorem Cs.bY(c:CV):Cs 0 c c:=⟨by omega,fun b=>by omega⟩
theorem Cs.mono{k m:Int}{c d:CV}(h:Cs k c d)(hm:k≤m):Cs m c d:=⟨by have:=h.ops;omega,h.aS⟩
theorem Cs.trans{k m:Int}{c d e:CV}(h:Cs k c d)(g:Cs m d e):Cs (k+m) c e:=⟨by have:=h.ops;have:=g.ops;omega,fun b=>by have:=h.aS b;have:=g.aS b;omega⟩
theorem OW{c:CV}{b e k:Int}:(aj (gk c b e) k).aS=(aj c k).aS:=by
 rw[gk];split
 ·
  rw[iO];split
  ·
   rename_i h
   have hh:fu c b=true:=by
    cases hq:fu c b with
    |true=>rfl
    |false=>rw[jR,if_neg (by rw[hq];simp)]at h;cases h
   obtain⟨_,h3,h4⟩:=fv.1 hh
   have e:=mz (c:=c) (o:=c.ops) (f:=c.off) (B:={aj c b with bad:=true}) (show b.toNat<c.blocks.length by omega) k
   rw[e];split
   ·
    rename_i e2;have e3:aj c k=aj c b:=by simp only[aj,e2]
    rw[e3]
   ·
    rfl
  ·
   rfl
 ·
  rfl
theorem sN(c:CV)(b:Int)(p:List UInt8):Cs 1 c (bj c b p):=by
 have hw: ∀k:Int,(aj (dt c b (aj c b).used p) k).aS=(aj c k).aS:=fun k=>by
  rw[dt];split
  ·
   rename_i h
   obtain⟨_,h3,h4⟩:=fv.1 (iF.1 h.1).1
   rw[eM,mz (by omega)];split
   ·
    rename_i e2;have e3:aj c k=aj c b:=by simp only[aj,e2]
    rw[e3]
   ·
    rfl
  ·
   rfl
 have ho:(dt c b (aj c b).used p).ops≤c.ops+1:=by
  rw[dt];split
  ·
   exact Int.le_refl _
  ·
   omega
 have hl:=K3 c b (aj c b).used p
 refine⟨by rw[bj,sd];exact ho,fun k=> ?_⟩
 rw[bj,OW,hw,sd];omega
theorem OX(c:CV)(b:Int):Cs 1 c (dh c b):=by
 have ho:(eN c b).ops≤c.ops+1∧ ∀k:Int,(aj (eN c b) k).aS -(aj c k).aS≤(eN c b).ops -c.ops:=by
  rw[eN];split
  ·
   rename_i h
   obtain⟨_,h3,h4⟩:=fv.1 (nE.1 h.1).1
   refine⟨Int.le_refl _,fun k=> ?_⟩
   rw[gF,mz (by omega)];split
   ·
    rename_i e2;have e3:aj c k=aj c b:=by simp only[aj,e2]
    rw[e3];simp only;omega
   ·
    simp only;omega
  ·
   exact⟨by omega,fun k=>by omega⟩
 exact⟨by rw[dh,sd];exact ho.1,fun k=>by rw[dh,OW,sd];exact ho.2 k⟩
theorem OY: ∀(n:Nat) (c:CV) (b:Int),Cs (n+1) c (fg n c b).1
 |0,c,b=>(OX c b).mono (by omega)
 |n+1,c,b=>by
  rw[fg];split
  ·
   exact(sN c b _).mono (by omega)
  ·
   exact((sN c b _).trans (OY n _ b)).mono (by omega)
theorem Dz{c:CV}(b:Int)(hk:aT c=true)(h0:0≤b)(h1:b<c.blocks.length):Cs 17 c (cG c b).1:=by
 have hd:=eH hk
 have hb:=eX.1 (rb hk h0 h1)
 have:dV c b≤16:=by rw[dV];split<;>omega
 exact(OY _ c b).mono (by omega)
theorem OZ: ∀{l m:List BV},l.length=m.length→(∀(i:Nat) (x y:BV),l[i]? =some x→m[i]? =some y→x.bad=true→y.bad=true)→(l.filter fun b=>b.bad).length≤(m.filter fun b=>b.bad).length∧((∃(i:Nat) (x y:BV),l[i]? =some x∧m[i]? =some y∧x.bad=false∧y.bad=true)→(l.filter fun b=>b.bad).length<(m.filter fun b=>b.bad).length)
 |[],[],_,_=>⟨Nat.le_refl _,fun⟨i,x,y,h,_⟩=>by simp at h⟩
 |[],_::_,h,_=>by simp at h
 |_::_,[],h,_=>by simp at h
 |a::l,b::m,h,hp=>by
  obtain⟨i1,i2⟩:=OZ (l:=l) (m:=m) (by simpa using h) (fun i x y hx hy=>hp (i+1) x y (by simpa using hx) (by simpa using hy))
  have h0:=hp 0 a b rfl rfl
  refine⟨?_,?_⟩
  ·
   simp only[List.filter_cons]
   by_cases ha:a.bad=true
   ·
    rw[if_pos ha,if_pos (h0 ha)];simpa using i1
   ·
    rw[if_neg ha];split
    ·
     simp only[List.length_cons];omega
    ·
     exact i1
  ·
   rintro⟨i,x,y,hx,hy,h1,h2⟩
   simp only[List.filter_cons]
   match i with
   |0=>
    obtain rfl:a=x:=by simpa using hx
    obtain rfl:b=y:=by simpa using hy
    rw[if_neg (by rw[h1];simp),if_pos h2];simp only[List.length_cons];omega
   |i+1=>
    have:=i2 ⟨i,x,y,by simpa using hx,by simpa using hy,h1,h2⟩
    by_cases ha:a.bad=true
    ·
     rw[if_pos ha,if_pos (h0 ha)];simpa using this
    ·
     rw[if_neg ha];split
     ·
      simp only[List.length_cons];omega
     ·
      exact this
theorem nn{L:List Int}{c d:CV}(h:Kd L c d):cq c≤cq d∧ ∀b:Int,0≤b→b<c.blocks.length→(aj c b).bad=false→(aj d b).bad=true→cq c<cq d:=by
 have hp: ∀(i:Nat) (x y:BV),c.blocks[i]? =some x→d.blocks[i]? =some y→x.bad=true→y.bad=true:=fun i x y hx hy hb=>by
  have e1:aj c (i:Int)=x:=by simp[aj,List.getD,hx]
  have e2:aj d (i:Int)=y:=by simp[aj,List.getD,hy]
  have:=h.Ag i (by rw[e1];exact hb)
  rw[e1,e2]at this
  rw[this];exact hb
 obtain⟨q1,q2⟩:=OZ h.cx.len.symm hp
 refine⟨q1,fun b b0 b1 hc hd=>q2 ⟨b.toNat,aj c b,aj d b,?_,?_,hc,hd⟩⟩
 ·
  simp only[aj,List.getD];rw[List.getElem?_eq_getElem (by omega)];rfl
 ·
  simp only[aj,List.getD];rw[List.getElem?_eq_getElem (by rw[h.cx.len];omega)];rfl
theorem aaY{c:CV}{b:Int}{p:List UInt8}(hb:(aj c b).bad=false)(he:bm c b p=9):0≤b∧b<c.blocks.length∧(aj (bj c b p) b).bad=true:=by
 rw[bm,jz]at he
 have eA:lL c b (aj c b).used p=true:=by
  cases hq:lL c b (aj c b).used p with
  |true=>rfl
  |false=>rw[if_neg (by rw[hq];simp)]at he;cases he
 rw[if_pos eA]at he
 have lu:c.off=false:=by
  cases hq:c.off with
  |false=>rfl
  |true=>rw[if_pos hq]at he;cases he
 rw[if_neg (by rw[lu];simp),if_neg (by rw[hb];simp)]at he
 have hs:(br c).2=true:=by
  cases hq:(br c).2 with
  |true=>rfl
  |false=>rw[if_neg (by rw[hq];simp)]at he;cases he
 rw[if_pos hs,kb]at he
 have DA:(br c).1.cut=false:=by
  cases hq:(br c).1.cut with
  |false=>rfl
  |true=>rw[if_pos hq]at he;cases he
 have hh:=(iF.1 eA).1
 obtain⟨h1,h2,h3⟩:=fv.1 hh
 refine⟨h2,h3,?_⟩
 have hE:bm c b p=9:=by
  rw[bm,jz,if_pos eA,if_neg (by rw[lu];simp),if_neg (by rw[hb];simp),if_pos hs,kb,if_neg (by rw[DA];simp)]
 have e:dt c b (aj c b).used p=eM c b (aj c b).used p:=if_pos ⟨eA,lu,hb,rfl⟩
 have hk:=BW h1 b (aj c b).used p
 rw[e]at hk
 have di:(eM c b (aj c b).used p).blocks.length=c.blocks.length:=by simp[eM]
 have HW:fu (eM c b (aj c b).used p) b=true:=fv.2 ⟨hk,h2,by rw[di];exact h3⟩
 have hm:jR (eM c b (aj c b).used p) b=0:=by
  rw[jR,if_pos HW,if_neg]
  rw[eM,hs,DA];simp
 rw[bj,hE,gk,if_pos rfl,e,iO,if_pos hm]
 have:=mz (c:=eM c b (aj c b).used p) (o:=(eM c b (aj c b).used p).ops) (f:=(eM c b (aj c b).used p).off) (B:={aj (eM c b (aj c b).used p) b with bad:=true}) (show b.toNat<(eM c b (aj c b).used p).blocks.length by rw[di];omega) b
 rw[if_pos rfl]at this
 rw[this]
theorem aaZ{c:CV}{b:Int}(hb:(aj c b).bad=false)(he:dS c b=9):0≤b∧b<c.blocks.length∧(aj (dh c b) b).bad=true:=by
 have Aa:=he
 rw[dS]at he
 have eA:mc c b=true:=by
  cases hq:mc c b with
  |true=>rfl
  |false=>rw[if_neg (by rw[hq];simp)]at he;cases he
 rw[if_pos eA]at he
 have lu:c.off=false:=by
  cases hq:c.off with
  |false=>rfl
  |true=>rw[if_pos hq]at he;cases he
 rw[if_neg (by rw[lu];simp),if_neg (by rw[hb];simp)]at he
 have hs:(br c).2=true:=by
  cases hq:(br c).2 with
  |true=>rfl
  |false=>rw[if_neg (by rw[hq];simp)]at he;cases he
 rw[if_pos hs,kb]at he
 have DA:(br c).1.cut=false:=by
  cases hq:(br c).1.cut with
  |false=>rfl
  |true=>rw[if_pos hq]at he;cases he
 have hh:=(nE.1 eA).1
 obtain⟨h1,h2,h3⟩:=fv.1 hh
 refine⟨h2,h3,?_⟩
 have e:eN c b=gF c b:=if_pos ⟨eA,lu,hb⟩
 have hk:=BX h1 b
 rw[e]at hk
 have di:(gF c b).blocks.length=c.blocks.length:=by simp[gF]
 have HW:fu (gF c b) b=true:=fv.2 ⟨hk,h2,by rw[di];exact h3⟩
 have hm:jR (gF c b) b=0:=by
  rw[jR,if_pos HW,if_neg]
  rw[gF,hs,DA];simp
 rw[dh,Aa,gk,if_pos rfl,e,iO,if_pos hm]
 have:=mz (c:=gF c b) (o:=(gF c b).ops) (f:=(gF c b).off) (B:={aj (gF c b) b with bad:=true}) (show b.toNat<(gF c b).blocks.length by rw[di];omega) b
 rw[if_pos rfl]at this
 rw[this]
theorem DB{c:CV}{b:Int}{p:List UInt8}(hb:(aj c b).bad=false)(he:bm c b p=9):cq c<cq (bj c b p):=by
 obtain⟨h1,h2,h3⟩:=aaY hb he
 exact(nn (pL (L:=[]))).2 b h1 h2 hb h3
theorem aa0{c:CV}{b:Int}(hb:(aj c b).bad=false)(he:dS c b=9):cq c<cq (dh c b):=by
 obtain⟨h1,h2,h3⟩:=aaZ hb he
 exact(nn (Hx (L:=[]) (fun n hn=>by cases hn))).2 b h1 h2 hb h3
theorem O0: ∀(n:Nat) {c:CV} {b:Int},(aj c b).bad=false→(fg n c b).2=9→cq c<cq (fg n c b).1
 |0,c,b,hb,he=>aa0 hb he
 |n+1,c,b,hb,he=>by
  rw[fg]at he⊢
  by_cases h0:bm c b (gQ c)≠0
  ·
   rw[if_pos h0]at he⊢;exact DB hb he
  ·
   rw[if_neg h0]at he⊢
   have nC:bm c b (gQ c)=0:=by simpa using h0
   have:=O0 n (K4 nC) he
   have:=(nn (pL (L:=[]) (c:=c) (b:=b) (p:=gQ c))).1
   omega
theorem DC{c:CV}{b:Int}(hb:(aj c b).bad=false)(he:(cG c b).2=9):cq c<cq (cG c b).1:=O0 _ hb he
theorem aa1{c:CV}{fl:List Int}{aC:Bool}(hk:aT c=true)(h3:3≤c.blocks.length):Cs 17 c (bg c fl aC).1∧((bg c fl aC).2.2=9→cq c<cq (bg c fl aC).1):=by
 rw[bg]
 by_cases h1:(mX c fl).2=true
 ·
  rw[if_pos h1];exact⟨(Cs.bY c).mono (by omega),fun h=>absurd (show(0:Int)=9 from h) (by decide)⟩
 ·
  rw[if_neg h1]
  by_cases h2:fP (aB c fl)=0∨(fP (aB c fl)=1∧aC=false)
  ·
   rw[if_pos h2];exact⟨(Cs.bY c).mono (by omega),fun h=>absurd (show(5:Int)=9 from h) (by decide)⟩
  ·
   rw[if_neg h2]
   by_cases h4:(kV c fl).2=true
   ·
    rw[if_pos h4];exact⟨(Cs.bY c).mono (by omega),fun h=>absurd (show(0:Int)=9 from h) (by decide)⟩
   ·
    rw[if_neg h4]
    obtain⟨d1,d2,d3⟩:=FD hk h3 (fun e=>h2 (.inl e)) h4
    exact⟨Dz _ hk (by omega) (by omega),DC d3⟩
theorem HX: ∀(n:Nat) {c:CV} {fl:List Int} {aC:Bool} {b:List UInt8},aT c=true→3≤c.blocks.length→Cs (18*(1+((cq (gR n c fl aC b).1:Int) -cq c))) c (gR n c fl aC b).1
 |0,c,fl,aC,b,_,_=>(Cs.bY c).mono (by show(0:Int)≤18*(1+((cq c:Int) -cq c));omega)
 |n+1,c,fl,aC,b,hk,h3=>by
  obtain⟨f1,f2,f3,f4,f5⟩:=B5 (fl:=fl) (aC:=aC) hk h3
  obtain⟨k1,k2⟩:=aa1 (fl:=fl) (aC:=aC) hk h3
  have kp:=(N8 (fl:=fl) (aC:=aC) hk h3).1
  have mw:=(nn kp.toKd).1
  have hbp:=(nn (pL (L:=[]) (c:=(bg c fl aC).1) (b:=(bg c fl aC).2.1) (p:=b))).1
  have oO:=k1.trans (sN (bg c fl aC).1 (bg c fl aC).2.1 b)
  rw[gR]
  by_cases h0:(bg c fl aC).2.2=0
  ·
   rw[if_pos h0]
   by_cases h1:bm (bg c fl aC).1 (bg c fl aC).2.1 b=0
   ·
    rw[if_pos h1];exact oO.mono (by simp only;omega)
   ·
    rw[if_neg h1]
    by_cases h9:bm (bg c fl aC).1 (bg c fl aC).2.1 b≠9
    ·
     rw[if_pos h9];exact oO.mono (by simp only;omega)
    ·
     rw[if_neg h9]
     have bR:=iI f1 (bg c fl aC).2.1 b
     have hl:=f2.trans (gm (bg c fl aC).1 (bg c fl aC).2.1 b)
     have:=HX n (fl:=fl) (aC:=aC) (b:=b) bR (by rw[hl.len];exact h3)
     have hb:=DB (f4 h0).2.2 (show bm (bg c fl aC).1 (bg c fl aC).2.1 b=9 by simpa using h9)
     exact(oO.trans this).mono (by omega)
  ·
   rw[if_neg h0]
   by_cases h9:(bg c fl aC).2.2≠9
   ·
    rw[if_pos h9];exact k1.mono (by simp only;omega)
   ·
    rw[if_neg h9]
    have:=HX n (fl:=fl) (aC:=aC) (b:=b) f1 (by rw[f2.len];exact h3)
    have hb:=k2 (show(bg c fl aC).2.2=9 by simpa using h9)
    exact(k1.trans this).mono (by omega)
theorem aa2{c:CV}{fl:List Int}{aC:Bool}{p:PV}(hk:aT c=true)(h3:3≤c.blocks.length):Cs (18*(1+((cq (da c fl aC p).1:Int) -cq c))) c (da c fl aC p).1:=by
 rw[da];split
 ·
  exact(Cs.bY c).mono (by simp only;omega)
 ·
  exact HX _ hk h3
theorem HY{v:VV}{aC:Bool}: ∀(l:List (Int×List UInt8)) {c:CV} {a:List Int},aT c=true→3≤c.blocks.length→Cs (18*(l.length+((cq (g9 v aC l c a).1:Int) -cq c))) c (g9 v aC l c a).1
 |[],c,a,_,_=>(Cs.bY c).mono (by simp only[g9,List.length_nil];omega)
 |x::r,c,a,hk,h3=>by
  have hp:=aa2 (fl:=v.at_++a) (aC:=aC) (p:=gZ v x) hk h3
  have kp:=(N9 (fl:=v.at_++a) (aC:=aC) (p:=gZ v x) hk h3).1
  have hb:=(nn kp.toKd).1
  rw[g9]
  split
  ·
   exact(HY r hk h3).mono (by simp only[List.length_cons];omega)
  ·
   split
   ·
    exact hp.mono (by simp only[List.length_cons];omega)
   ·
    have:=HY (v:=v) (aC:=aC) r (c:=(da c (v.at_++a) aC (gZ v x)).1) (a:=a.set x.1.toNat (da c (v.at_++a) aC (gZ v x)).2.1) (kp.ok hk) (by rw[kp.cx.len];exact h3)
    exact(hp.trans this).mono (by simp only[List.length_cons];omega)
theorem HZ{v:VV}{src to:Int}: ∀(l:List Int) (id:Nat) {c:CV} {a:List Int},Cs l.length c (ca v src to l id c a).c
 |[],id,c,a=>Cs.bY c
 |n::r,id,c,a=>by
  rw[ca]
  split
  ·
   exact(HZ r (id+1)).mono (by simp only[List.length_cons];omega)
  ·
   split
   ·
    exact(Cs.bY c).mono (by simp only[List.length_cons];omega)
   ·
    split
    ·
     exact(Cs.bY c).mono (by simp only[List.length_cons];omega)
    ·
     split
     ·
      exact(sN c _ _).mono (by simp only[List.length_cons];omega)
     ·
      exact((sN c _ _).trans (HZ r (id+1))).mono (by simp only[List.length_cons];omega)
theorem aa3(c:CV)(last:Int):Cs 1 c (aV c last).1∧cq c≤cq (aV c last).1:=by
 rw[aV]
 repeat' split
 all_goals first
  |exact⟨(Cs.bY c).mono (by omega),Nat.le_refl _⟩
  |exact⟨OX c _,(nn (Hx (L:=[]) (fun n hn=>by cases hn))).1⟩
theorem O1: ∀(n:Nat) {x:WV} {a:List Int} {b:List UInt8},cf x→Cs (2*(1+((cq (fh n x a b).1.v.ag:Int) -cq x.v.ag))) x.v.ag (fh n x a b).1.v.ag
 |0,x,a,b,_=>(Cs.bY _).mono (by simp only[fh];omega)
 |n+1,x,a,b,hx=>by
  obtain⟨r1,r2⟩:=aa3 x.v.ag x.v.last
  have bR:=xd (last:=x.v.last) hx.ag hx.last
  have hbp:=(nn (pL (L:=[]) (c:=(aV x.v.ag x.v.last).1) (b:=(aV x.v.ag x.v.last).2.1) (p:=b))).1
  have hc:=r1.trans (sN (aV x.v.ag x.v.last).1 (aV x.v.ag x.v.last).2.1 b)
  rw[fh]
  split
  ·
   exact r1.mono (by simp only[WV.on];omega)
  ·
   split
   ·
    exact hc.mono (by simp only;omega)
   ·
    split
    ·
     exact hc.mono (by simp only[WV.on];omega)
    ·
     rename_i h0 h1 h9
     have hb:=DB (bR.2.2.2 (by simpa using h0)).2 (show bm (aV x.v.ag x.v.last).1 (aV x.v.ag x.v.last).2.1 b=9 by simpa using h9)
     have dW:=hx.on (iI bR.1 (aV x.v.ag x.v.last).2.1 b) (bR.2.1.trans (gm (aV x.v.ag x.v.last).1 (aV x.v.ag x.v.last).2.1 b))
     have:=O1 n (x:=x.on (bj (aV x.v.ag x.v.last).1 (aV x.v.ag x.v.last).2.1 b)) (a:=a) (b:=b) dW
     exact(hc.trans this).mono (by simp only[WV.on];omega)
theorem O2{x:WV}{a:List Int}(hx:cf x):Cs (2*(1+((cq (et x a).1.v.ag:Int) -cq x.v.ag))) x.v.ag (et x a).1.v.ag:=by
 rw[et];split
 ·
  exact(Cs.bY _).mono (by simp only;omega)
 ·
  exact O1 _ hx
open Go.ay
theorem aa4{c:CV}{b:Int}{p:List UInt8}(hb:b<2)(i:Nat):aj (bj c b p) ((i:Int)+2)=aj c ((i:Int)+2):=by
 rw[bj,gk]
 split
 ·
  rw[iO]
  split
  ·
   rename_i hm
   have hh:fu (dt c b (aj c b).used p) b=true:=by
    cases hq:fu (dt c b (aj c b).used p) b with
    |true=>rfl
    |false=>rw[jR,if_neg (by rw[hq];simp)]at hm;cases hm
   obtain⟨_,h3,h4⟩:=fv.1 hh
   have:=mz (c:=dt c b (aj c b).used p) (o:=(dt c b (aj c b).used p).ops) (f:=(dt c b (aj c b).used p).off) (B:={aj (dt c b (aj c b).used p) b with bad:=true}) (show b.toNat<(dt c b (aj c b).used p).blocks.length by omega) ((i:Int)+2)
   rw[if_neg (by omega)]at this
   rw[this,uh (by omega)]
  ·
   rw[uh (by omega)]
 ·
  rw[uh (by omega)]
theorem O3: ∀(n:Nat) {x:WV} {a:List Int} {b:List UInt8},cf x→ ∀i:Nat,aj (fh n x a b).1.v.ag ((i:Int)+2)=aj x.v.ag ((i:Int)+2)
 |0,x,a,b,_,i=>rfl
 |n+1,x,a,b,hx,i=>by
  have hl:=hx.last
  have bR:=xd (last:=x.v.last) hx.ag hl
  have hd:aj (aV x.v.ag x.v.last).1 ((i:Int)+2)=aj x.v.ag ((i:Int)+2):=aaP hl i
  rw[fh]
  split
  ·
   exact hd
  ·
   rename_i h0
   have hb:=(bR.2.2.2 (by simpa using h0)).1
   have hp:aj (bj (aV x.v.ag x.v.last).1 (aV x.v.ag x.v.last).2.1 b) ((i:Int)+2)=aj x.v.ag ((i:Int)+2):=(aa4 (by omega) i).trans hd
   split
   ·
    exact hp
   ·
    split
    ·
     exact hp
    ·
     have dW:=hx.on (iI bR.1 (aV x.v.ag x.v.last).2.1 b) (bR.2.1.trans (gm (aV x.v.ag x.v.last).1 (aV x.v.ag x.v.last).2.1 b))
     exact(O3 n dW i).trans hp
theorem aa5{x:WV}{a:List Int}(hx:cf x)(i:Nat):aj (et x a).1.v.ag ((i:Int)+2)=aj x.v.ag ((i:Int)+2):=by
 rw[et];split
 ·
  rfl
 ·
  exact O3 _ hx i
theorem H2{v:VV}{src:Int}{t:Nat}: ∀(l:List Int) (id:Nat) {c:CV} {a:List Int} {m:Nat},aT c=true→dL v.ag c→t<c.blocks.length -2→Pl c v.at_→Std c a→a.length=v.at_.length→v.at_.drop id=l→(∀j,id≤j→a[j]? =v.at_[j]?)→(∀(j:Nat) (y:Int),v.at_[j]? =some y→(y=0∨(y -1)/v.ag.ae≠src)→a[j]? =some y)→
  fm c.ae (v.at_++a) t=m→(aj c ((t:Int)+2)).used=m→(aj c ((t:Int)+2)).bad=false→(ca v src ((t:Int)+2) l id c a).e=none→
  Std (ca v src ((t:Int)+2) l id c a).c (ca v src ((t:Int)+2) l id c a).a∧
   (∃m' w':Int,aB (ca v src ((t:Int)+2) l id c a).c (v.at_++(ca v src ((t:Int)+2) l id c a).a)=(aB c (v.at_++a)).set t ⟨m',m',w',false⟩)∧
   (∀(j:Nat) (y:Int),v.at_[j]? =some y→(y=0∨(y -1)/v.ag.ae≠src)→(ca v src ((t:Int)+2) l id c a).a[j]? =some y)
 |[],id,c,a,m,hk,di,ht,hv,ha,fG,hl,iV,dO,na,sE,hb,he=>by
  have hd:=eH hk
  refine⟨ha,⟨m,(aj c ((t:Int)+2)).aS,?_⟩,dO⟩
  refine(OU ?_).symm
  show(aB c (v.at_++a))[t]? =_
  rw[vX (by omega) (hv.pO.append ha),List.getElem?_map,List.getElem?_range ht,Option.map_some,oP hb,na,sE]
 |y::r,id,c,a,m,hk,di,ht,hv,ha,fG,hl,iV,dO,na,sE,hb,he=>by
  have hy:v.at_[id]? =some y:=by
   have:=congrArg (fun l:List Int=>l[0]?) hl
   simpa using this
  have hr:v.at_.drop (id+1)=r:=by rw[←List.drop_drop,hl];rfl
  have hp:=di.ae
  have hd:=eH hk
  rw[ca]at he⊢
  by_cases h1:y=0∨(y -1)/v.ag.ae≠src
  ·
   rw[if_pos h1]at he⊢
   exact H2 r (id+1) hk di ht hv ha fG hr (fun j hj=>iV j (by omega)) dO na sE hb he
  ·
   rw[if_neg h1]at he⊢
   have hB:bV c v.at_ a src ((t:Int)+2)=((t:Int)+2,true):=by rw[bV,if_neg (by omega)]
   rw[hB,if_neg (by simp)]at he⊢
   by_cases h3:(dA c ((v.gen:Int)+1) id y).2≠0
   ·
    rw[if_pos h3]at he;simp at he
   ·
    rw[if_neg h3]at he⊢
    by_cases h4:bm c ((t:Int)+2) (dA c ((v.gen:Int)+1) id y).1≠0
    ·
     rw[if_pos h4]at he;simp at he
    ·
     rw[if_neg h4]at he⊢
     have z:bm c ((t:Int)+2) (dA c ((v.gen:Int)+1) id y).1=0:=by simpa using h4
     simp only at he⊢
     generalize hN:((t:Int)+2)*v.ag.ae+(aj c ((t:Int)+2)).used+1=N at he⊢
     have lf: ∀k,k∈v.at_++a.set id N↔k∈v.at_++a∨k=((t:Int)+2)*c.ae+(aj c ((t:Int)+2)).used+1:=fun k=>by
      rw[hp,hN,List.mem_append,List.mem_append]
      have hG:id<a.length:=by rw[fG];exact(List.getElem?_eq_some_iff.1 hy).1
      constructor
      ·
       rintro(q|q)
       ·
        exact .inl (.inl q)
       ·
        rcases List.mem_or_eq_of_mem_set q with q|q
        ·
         exact .inl (.inr q)
        ·
         exact .inr q
      ·
       rintro((q|q)|q)
       ·
        exact .inl q
       ·
        obtain⟨j,hj⟩:=List.getElem?_of_mem q
        by_cases e:j=id
        ·
         rw[e,iV id (Nat.le_refl _)]at hj
         exact .inl (List.mem_of_getElem? hj)
        ·
         right
         exact List.mem_of_getElem? (i:=j) (by rw[List.getElem?_set_ne (fun g=>e g.symm)];exact hj)
       ·
        right
        rw[q]
        exact List.mem_of_getElem? (i:=id) (by rw[List.getElem?_set_self hG])
     obtain⟨b1,b2⟩:=aaO hk (hv.pO.append ha) z lf
     have sM:=pL (L:=v.at_) (c:=c) (b:=(t:Int)+2) (p:=(dA c ((v.gen:Int)+1) id y).1)
     have rH:=gm c ((t:Int)+2) (dA c ((v.gen:Int)+1) id y).1
     have eA:=iF.1 (nK z).1
     have hH:=Dv z
     have ei:(((t:Int)+2)*c.ae+(aj c ((t:Int)+2)).used+1 -1)/c.ae=(t:Int)+2:=by
      rw[Int.add_sub_cancel,Int.add_comm,Int.add_mul_ediv_right _ _ (by omega),Int.ediv_eq_zero_of_lt eA.2.1 eA.2.2.1,Int.zero_add]
     have aa6:((t:Int)+2)*c.ae+(aj c ((t:Int)+2)).used+1∉v.at_++a:=fun gU=>by
      have w9:0≤((t:Int)+2)*c.ae:=Int.mul_nonneg (by omega) (by omega)
      have:=hv.pO.append ha _ gU (by have:=eA.2.1;omega)
      rw[Int.add_sub_cancel,(Di (L:=[]) (by omega) z).2.2.2]at this;cases this
     have O4:=HN (by omega) ei aa6 lf t
     rw[if_pos rfl,na]at O4
     obtain⟨i3,⟨m',w',i4⟩,i5⟩:=H2 r (id+1) (m:=m+1) (a:=a.set id N) (iI hk _ _) (di.trans rH) (by rw[rH.len];exact ht) (hv.kd sM fun _ q=>q) (fun k hk=>b2 k (List.mem_append_right _ hk)) (by rw[List.length_set,fG]) hr (fun j hj=>by rw[List.getElem?_set_ne (by omega)];exact iV j (by omega)) (fun j q hq Dn=>by
      by_cases e:j=id
      ·
       rw[e,hy]at hq
       obtain rfl:=Option.some.inj hq
       exact absurd Dn h1
      ·
       rw[List.getElem?_set_ne (fun g=>e g.symm)];exact dO j q hq Dn) (by rw[rH.ae];exact O4) (by rw[hH.1,sE];rfl) hH.2.2 he
     refine⟨i3,⟨m',w',?_⟩,i5⟩
     rw[i4,b1,List.set_set]
theorem H3{v:VV}{src to:Int}: ∀(l:List Int) (id:Nat) {c:CV} {a:List Int},(0≤to→2≤to∧to<c.blocks.length∧(aj c to).bad=false)→cq c≤cq (ca v src to l id c a).c∧((ca v src to l id c a).e=some 0→cq c<cq (ca v src to l id c a).c)
 |[],id,c,a,ht=>⟨Nat.le_refl _,fun h=>by simp[ca]at h⟩
 |n::r,id,c,a,ht=>by
  rw[ca]
  by_cases h1:n=0∨(n -1)/v.ag.ae≠src
  ·
   rw[if_pos h1];exact H3 r (id+1) ht
  ·
   rw[if_neg h1]
   by_cases h2:(bV c v.at_ a src to).2=false
   ·
    rw[if_pos h2];exact⟨Nat.le_refl _,fun h=>by simp at h⟩
   ·
    rw[if_neg h2]
    obtain⟨m1,m2,m3⟩:=FP (by simpa using h2) ht
    by_cases h3:(dA c ((v.gen:Int)+1) id n).2≠0
    ·
     rw[if_pos h3]
     exact⟨Nat.le_refl _,fun h=>absurd (Option.some.inj h) h3⟩
    ·
     rw[if_neg h3]
     have hm:=(nn (pL (L:=[]) (c:=c) (b:=(bV c v.at_ a src to).1) (p:=(dA c ((v.gen:Int)+1) id n).1))).1
     by_cases h4:bm c (bV c v.at_ a src to).1 (dA c ((v.gen:Int)+1) id n).1≠0
     ·
      rw[if_pos h4]
      refine⟨hm,fun h=> ?_⟩
      have h:=Option.some.inj h
      rw[jf]at h
      split at h
      ·
       rename_i h9;exact DB m3 h9
      ·
       exact absurd h h4
     ·
      rw[if_neg h4]
      have rf:bm c (bV c v.at_ a src to).1 (dA c ((v.gen:Int)+1) id n).1=0:=by simpa using h4
      obtain⟨i1,i2⟩:=H3 (v:=v) (src:=src) (to:=to) r (id+1) (c:=bj c (bV c v.at_ a src to).1 (dA c ((v.gen:Int)+1) id n).1) (a:=a.set id ((bV c v.at_ a src to).1*v.ag.ae+(aj c (bV c v.at_ a src to).1).used+1)) (fun h=>by
       have:=ht h
       rw[(gm c _ _).len,B7 rf]
       exact this)
      exact⟨by omega,fun h=>by have:=i2 h;omega⟩
def DD(c:CV):Prop:= ∀b:Int,(aj c b).aS<cN
theorem vZ{c:CV}{fl:List Int}(hp:1≤c.ae)(hs:Std c fl){i:Nat}(hi:i<c.blocks.length -2):(aB c fl)[i]? =some (lA c fl i):=by
 rw[vX hp hs,List.getElem?_map,List.getElem?_range hi,Option.map_some]
theorem O5{c:CV}{fl:List Int}{i:Nat}(hk:aT c=true)(hs:Std c fl)(h3:3≤c.blocks.length):
  ((bK c ((aB c fl).set i bc)).2.2=0→ ∃(t:Nat) (w:Int),t≠i∧t<c.blocks.length -2∧(bK c ((aB c fl).set i bc)).2.1=(t:Int)+2∧aB (bK c ((aB c fl).set i bc)).1 fl=(aB c fl).set t ⟨0,0,w,false⟩)∧
  ((bK c ((aB c fl).set i bc)).2.2=9→cq c<cq (bK c ((aB c fl).set i bc)).1)∧
  Cs 17 c (bK c ((aB c fl).set i bc)).1∧
  ((bK c ((aB c fl).set i bc)).2.2=6→(bK c ((aB c fl).set i bc)).1=c∧(DD c→ ∀(j:Nat) (x:aA),j≠i→(aB c fl)[j]? =some x→x.bad=false→x.live≠0)):=by
 have hd:=eH hk
 have hw0:=aaM hk hs h3
 have hw:=aaN hw0 i
 have O6: ∀{k:Nat} {x:aA},((aB c fl).set i bc)[k]? =some x→x.bad=false→k≠i∧k<c.blocks.length -2∧(aj c ((k:Int)+2)).bad=false∧x=⟨fm c.ae fl k,(aj c ((k:Int)+2)).used,(aj c ((k:Int)+2)).aS,false⟩∧(aB c fl)[k]? =some x:=fun{k x} hx hb=>by
  have yc:k≠i:=fun e=>by
   rw[e,List.getElem?_set,if_pos rfl]at hx
   split at hx
   ·
    obtain rfl:=Option.some.inj hx;cases hb
   ·
    cases hx
  rw[List.getElem?_set_ne (fun e=>yc e.symm)]at hx
  obtain⟨e,hl⟩:=Du (by omega) hs hx
  have lO:=tB hx
  rw[hb]at lO
  exact⟨yc,hl,lO.symm,by rw[e];exact oP lO.symm,hx⟩
 have O7: ∀{d:Int},(∃x,((aB c fl).set i bc)[d.toNat]? =some x∧x.bad=false∧x.live=0)→0≤d→
   ((cG c (d+2)).2=0→ ∃(t:Nat) (w:Int),t≠i∧t<c.blocks.length -2∧d+2=(t:Int)+2∧aB (cG c (d+2)).1 fl=(aB c fl).set t ⟨0,0,w,false⟩)∧((cG c (d+2)).2=9→cq c<cq (cG c (d+2)).1)∧Cs 17 c (cG c (d+2)).1∧((cG c (d+2)).2=6→False):=fun{d} hx h0=>by
  obtain⟨x,hx,hb,hl⟩:=hx
  obtain⟨k1,k2,k3,k4,_⟩:=O6 hx hb
  rw[k4]at hl
  simp only at hl
  have e:d=((d.toNat:Nat):Int):=by omega
  rw[e]
  have qk:=(Aq (by omega) hs d.toNat).1 (by omega)
  refine⟨fun z=>⟨d.toNat,_,k1,k2,rfl,(HP hk hs qk z).1⟩,DC k3,Dz _ hk (by omega) (by omega),zr _ _⟩
 rw[bK]
 by_cases hA:(kW c ((aB c fl).set i bc)).2=true
 ·
  rw[if_pos hA]
  refine⟨fun _=> ?_,fun h=>absurd (show(0:Int)=9 from h) (by decide),(Cs.bY c).mono (by omega),fun h=>absurd (show(0:Int)=6 from h) (by decide)⟩
  obtain⟨x,hx,a1,a2,a3,a4,a5⟩:=oC (fun x h=>(vk h).1) hA
  have yZ:((aB c fl).set i bc)[(kW c ((aB c fl).set i bc)).1.toNat]? =some x:=hx
  change 0≤(kW c ((aB c fl).set i bc)).1 at a4
  generalize kW c ((aB c fl).set i bc)=T at*
  obtain⟨k1,k2,k3,k4,k5⟩:=O6 yZ a1
  simp only[pw,decide_eq_true_eq]at a2
  rw[k4]at a2
  simp only at a2
  have Nh:=ON (by omega) hs T.1.toNat (by omega)
  refine⟨T.1.toNat,(aj c ((T.1.toNat:Int)+2)).aS,k1,k2,by simp only;rw[Int.toNat_of_nonneg a4],(OU ?_).symm⟩
  rw[k5,k4,a2,show(fm c.ae fl T.1.toNat:Int)=0 by omega]
 ·
  rw[if_neg hA]
  by_cases hB:(jE c ((aB c fl).set i bc)).2=true
  ·
   rw[if_pos hB]
   obtain⟨x,hx,a1,a2,a3,a4,a5⟩:=oC (fun x h=>(kA h).1) hB
   obtain⟨q1,q2,q3,q4⟩:=O7 (d:=(jE c ((aB c fl).set i bc)).1) ⟨x,hx,a1,(kA a3).2.1⟩ a4
   exact⟨q1,q2,q3,fun g=>(q4 g).elim⟩
  ·
   rw[if_neg hB]
   by_cases hD:(jh c ((aB c fl).set i bc)).2=true
   ·
    rw[if_pos hD]
    obtain⟨x,hx,a1,a2,a3,a4,a5⟩:=oC (fun x h=>(kA h).1) hD
    obtain⟨q1,q2,q3,q4⟩:=O7 (d:=(jh c ((aB c fl).set i bc)).1) ⟨x,hx,a1,(kA a3).2.1⟩ a4
    exact⟨q1,q2,q3,fun g=>(q4 g).elim⟩
   ·
    rw[if_neg hD]
    refine⟨fun h=>absurd (show(6:Int)=0 from h) (by decide),fun h=>absurd (show(6:Int)=9 from h) (by decide),(Cs.bY c).mono (by omega),fun _=>⟨rfl,fun CF j x hj hx hb hl=> ?_⟩⟩
    have hAn:=w5 (OO (R:=pw) hw) (show(fH (bZ pw ((aB c fl).set i bc)) c.ae (nJ c.ae) [BU,sa]).2=false by simpa[kW,eY]using hA)
    have lJ:=w5 (OO (R:=qo) hw) (show(fH (bZ qo ((aB c fl).set i bc)) c.ae mg [sa]).2=false by simpa[jh,eZ]using hD)
    have lf:x∈(aB c fl).set i bc:=List.mem_of_getElem? (i:=j) (by rw[List.getElem?_set_ne (fun e=>hj e.symm)];exact hx)
    obtain⟨e1,e2⟩:=Du (by omega) hs hx
    have lO:=tB hx
    rw[hb]at lO
    rw[oP lO.symm]at e1
    have nZ:=CF ((j:Int)+2)
    have vU:=eX.1 (rb hk (b:=(j:Int)+2) (by omega) (by omega))
    have hxu:x.used=(aj c ((j:Int)+2)).used:=by rw[e1]
    have hxw:x.aS=(aj c ((j:Int)+2)).aS:=by rw[e1]
    by_cases hu:x.used=0
    ·
     have:=hAn _ (List.mem_map_of_mem (f:=iQ pw) lf)
     rw[OT hb (by simp[pw,hu]),nJ,hb]at this
     simp only[Bool.not_false,Bool.true_and,decide_eq_false_iff_not]at this
     omega
    ·
     have:=lJ _ (List.mem_map_of_mem (f:=iQ qo) lf)
     rw[OT hb (by simp only[qo,decide_eq_true_eq];omega),mg,hb,hl]at this
     simp only[Bool.not_false,Bool.true_and,decide_true,decide_eq_false_iff_not]at this
     omega
open Go.ay
theorem aa7{c:CV}{fl:List Int}{i:Nat}{m w:Int}(h:lA c fl i=⟨m,m,w,false⟩):(aj c ((i:Int)+2)).bad=false∧(aj c ((i:Int)+2)).used=m∧(fm c.ae fl i:Int)=m:=by
 have hb:(aj c ((i:Int)+2)).bad=false:=by
  cases hq:(aj c ((i:Int)+2)).bad with
  |false=>rfl
  |true=>rw[lA,if_pos hq]at h;cases h
 rw[oP hb]at h
 exact⟨hb,congrArg aA.used h,congrArg aA.live h⟩
theorem aa8{x:WV}(hx:cf x)(h:Std x.v.ag x.v.at_){i:Nat}(hi:i<x.v.ag.blocks.length -2)(hb:(aj x.v.ag ((i:Int)+2)).bad=false)(hl:fm x.v.ag.ae x.v.at_ i=0):1≤fP (bb x):=by
 have hd:=eH hx.ag
 refine Dw (vZ (by omega) h hi) ?_ ?_
 ·
  rw[oP hb]
 ·
  rw[oP hb];simp only;omega
def DE(x y:WV):Prop:=cq x.v.ag<cq y.v.ag∨(1≤fP (bb y)∧(fP (bb x)=0∨vY y<vY x))
theorem O8{x:WV}(hx:cf x)(h:dw x.v)(he:(jF x (bb x)).2=0):DE x (jF x (bb x)).1:=by
 have hd:=eH hx.ag
 have uk:=h.pl.pO
 have hD:(kj x.v.ag (bb x)).2=true:=by
  cases hq:(kj x.v.ag (bb x)).2 with
  |true=>rfl
  |false=>rw[jF,if_pos hq]at he;cases he
 obtain⟨z,hz,a1,a2,a3,a4,a5⟩:=oC (fun x h=>(kA h).1) (show(fH (bZ (m7 x.v.ag.ae) (bb x)) x.v.ag.ae mg [sa]).2=true from hD)
 have H4:(bb x)[(kj x.v.ag (bb x)).1.toNat]? =some z:=hz
 change 0≤(kj x.v.ag (bb x)).1 at a4
 rw[jF,if_neg (by rw[hD];simp)]at he⊢
 generalize kj x.v.ag (bb x)=T at*
 obtain⟨e1,e2⟩:=Du (by omega) uk H4
 have lO:=tB H4
 rw[a1]at lO
 rw[oP lO.symm]at e1
 have qf:=(kA a3).2.1
 have MZ:=(kA a3).2.2
 rw[m7,Bool.and_eq_true,decide_eq_true_eq]at a2
 have CJ:=a2.1
 have eT:T.1=((T.1.toNat:Nat):Int):=by omega
 have aa9:fm x.v.ag.ae x.v.at_ T.1.toNat=0:=by rw[e1]at qf;simp only at qf;omega
 have qk:=(Aq (by omega) uk T.1.toNat).1 aa9
 have kc:=(vh (((T.1.toNat:Nat):Int)+2) hx.ag).2
 rw[eT]at he⊢
 rcases zt he with q1|q1
 ·
  right
  obtain⟨b1,b2⟩:=HP hx.ag uk qk q1
  have kg:=HR (p:=x.v.ag.ae) (x:=⟨0,0,(aj x.v.ag (((T.1.toNat:Nat):Int)+2)).aS+1,false⟩) H4
  have aba:nj x.v.ag.ae ⟨0,0,(aj x.v.ag (((T.1.toNat:Nat):Int)+2)).aS+1,false⟩=0:=by
   rw[nj];simp
  have nO:nj x.v.ag.ae z=1:=by
   rw[nj,a1];simp only[Bool.false_eq_true,if_false]
   rw[if_pos qf,if_pos ⟨MZ,CJ⟩]
  refine⟨?_, .inr ?_⟩
  ·
   show 1≤fP (aB (cG x.v.ag (((T.1.toNat:Nat):Int)+2)).1 x.v.at_)
   rw[b1]
   exact Dw (List.getElem?_set_self (by rw[kf];exact e2)) rfl rfl
  ·
   show pP (cG x.v.ag (((T.1.toNat:Nat):Int)+2)).1.ae (aB (cG x.v.ag (((T.1.toNat:Nat):Int)+2)).1 x.v.at_)<pP x.v.ag.ae (aB x.v.ag x.v.at_)
   rw[b1,kc.ae]
   change pP x.v.ag.ae ((bb x).set _ _)<pP x.v.ag.ae (bb x)
   omega
 ·
  left
  exact DC lO.symm q1
theorem abb{x:WV}(hx:cf x)(h:dw x.v)(hv:(iS x).2=true): ∃i:Nat,(iS x).1=i∧i<x.v.ag.blocks.length -2∧(aj x.v.ag ((i:Int)+2)).bad=false∧0<fm x.v.ag.ae x.v.at_ i∧(fm x.v.ag.ae x.v.at_ i:Int)<(aj x.v.ag ((i:Int)+2)).used:=by
 have hd:=eH hx.ag
 have Ao:=FM hv
 rw[bb,kf]at Ao
 change 0≤(iS x).1∧(iS x).1<_ at Ao
 have hi:(iS x).1.toNat<x.v.ag.blocks.length -2:=by omega
 have hg:=vZ (c:=x.v.ag) (fl:=x.v.at_) (by omega) h.pl.pO hi
 have H5:(bb x).getD (iS x).1.toNat du=lA x.v.ag x.v.at_ (iS x).1.toNat:=by
  simp only[List.getD];rw[show(bb x)[(iS x).1.toNat]? =_ from hg];rfl
 have key:((bb x).getD (iS x).1.toNat du).bad=false∧0<((bb x).getD (iS x).1.toNat du).live∧((bb x).getD (iS x).1.toNat du).live<((bb x).getD (iS x).1.toNat du).used:=by
  rw[iS,jg]at hv⊢
  by_cases h1:(kz (bb x) x.v.ag.ae).2=true
  ·
   rw[if_pos h1]
   obtain⟨f1,f2,f3,f4⟩:=w4 h1
   change vf x.v.ag.ae ((bb x).getD (kz (bb x) x.v.ag.ae).1.toNat du)=true at f4
   simp only
   have hb:((bb x).getD (kz (bb x) x.v.ag.ae).1.toNat du).bad=false:=by
    cases hq:((bb x).getD (kz (bb x) x.v.ag.ae).1.toNat du).bad with
    |false=>rfl
    |true=>
     have hl:(kz (bb x) x.v.ag.ae).1.toNat<x.v.ag.blocks.length -2:=by
      have:(kz (bb x) x.v.ag.ae).1<(bb x).length:=f3
      have f2':0≤(kz (bb x) x.v.ag.ae).1:=f2
      have hl2:(bb x).length=x.v.ag.blocks.length -2:=kf _ _
      omega
     have e:(bb x).getD (kz (bb x) x.v.ag.ae).1.toNat du=lA x.v.ag x.v.at_ (kz (bb x) x.v.ag.ae).1.toNat:=by
      simp only[List.getD];rw[show(bb x)[(kz (bb x) x.v.ag.ae).1.toNat]? =_ from vZ (c:=x.v.ag) (fl:=x.v.at_) (by omega) h.pl.pO hl];rfl
     rw[e]at hq f4
     have lO:lA x.v.ag x.v.at_ (kz (bb x) x.v.ag.ae).1.toNat=bc:=by
      rw[lA]at hq⊢
      split
      ·
       rfl
      ·
       rename_i g;rw[if_neg g]at hq;cases hq
     rw[lO]at f4
     cases f4
   rw[vf,hb]at f4
   simp only[Bool.false_eq_true,if_false,Bool.and_eq_true,decide_eq_true_eq]at f4
   exact⟨hb,by omega,by omega⟩
  ·
   rw[if_neg h1]at hv⊢
   simp only[decide_eq_true_eq]at hv⊢
   obtain⟨s0,s1,s2,s3⟩:=OS _ _ hv
   have hm:(bb x).getD (gp (bb x) (bb x).length).1.toNat du∈bb x:=by
    simp only[List.getD];rw[List.getElem?_eq_getElem s0];exact List.getElem_mem s0
   have:=(tC hx.ag hm).FB
   exact⟨s1,by omega,by omega⟩
 rw[H5]at key
 have hb:(aj x.v.ag (((iS x).1.toNat:Int)+2)).bad=false:=by
  rw[←tB hg];exact key.1
 rw[oP hb]at key
 simp only at key
 exact⟨(iS x).1.toNat,by omega,hi,hb,by omega,key.2.2⟩
open Go.ay
theorem abc{l:List aA}(h: ∀(j:Nat) (x:aA),l[j]? =some x→x.bad=false→x.live≠0):fP l=0:=by
 apply Classical.byContradiction
 intro hn
 obtain⟨j,x,h1,h2,h3⟩:=aaR (l:=l) (by omega)
 exact h j x h1 h2 h3
theorem O9{b:Bool}(h: ¬b=false):b=true:=by cases b with|false=>exact absurd rfl h|true=>rfl
theorem abd{x:WV}{i:Nat}(hx:cf x)(h:dw x.v)(bE:fa x.v.ag)(hn:DD x.v.ag)(hi:i<x.v.ag.blocks.length -2)(hb:(aj x.v.ag ((i:Int)+2)).bad=false)(h0:0<fm x.v.ag.ae x.v.at_ i)(h1:(fm x.v.ag.ae x.v.at_ i:Int)<(aj x.v.ag ((i:Int)+2)).used):
  ((eC x (bb x) i).2=0→DE x (eC x (bb x) i).1)∧((eC x (bb x) i).2=6→fP (bb x)=0∨(eC x (bb x) i).1=x):=by
 have hd:=eH hx.ag
 have zQ:3≤x.v.ag.blocks.length:=by have:=hx.oD;omega
 have uk:=h.pl.pO
 have Ar:=vZ (c:=x.v.ag) (fl:=x.v.at_) (by omega) uk hi
 rw[oP hb]at Ar
 have H5:(bb x).getD i du=⟨fm x.v.ag.ae x.v.at_ i,(aj x.v.ag ((i:Int)+2)).used,(aj x.v.ag ((i:Int)+2)).aS,false⟩:=by
  simp only[List.getD];rw[show(bb x)[i]? =_ from Ar];rfl
 have aH:(i:Int).toNat=i:=rfl
 obtain⟨t0,t9,tc,t6⟩:=O5 (i:=i) hx.ag uk zQ
 have k1:=(HI ((Dg x.v.ag x.v.at_).set i)).1
 change(bK x.v.ag ((bb x).set i bc)).2.2=0→ ∃(t:Nat) (w:Int),t≠i∧t<x.v.ag.blocks.length -2∧(bK x.v.ag ((bb x).set i bc)).2.1=(t:Int)+2∧aB (bK x.v.ag ((bb x).set i bc)).1 x.v.at_=(bb x).set t ⟨0,0,w,false⟩at t0
 change(bK x.v.ag ((bb x).set i bc)).2.2=9→cq x.v.ag<cq (bK x.v.ag ((bb x).set i bc)).1 at t9
 change(bK x.v.ag ((bb x).set i bc)).2.2=6→(bK x.v.ag ((bb x).set i bc)).1=x.v.ag∧_ at t6
 change Kp x.v.at_ x.v.ag (bK x.v.ag ((bb x).set i bc)).1 at k1
 have Pa:(bK x.v.ag ((bb x).set i bc)).2.2=6→fP (bb x)=0:=fun e=>abc fun j z hz M4=>by
  by_cases hj:j=i
  ·
   rw[hj,show(bb x)[i]? =_ from Ar]at hz
   rw[←Option.some.inj hz];simp only;omega
  ·
   exact(t6 e).2 hn j z hj hz M4
 rw[eC,aH]
 by_cases hr:(cc x.v.ag (bb x) i).2≠0
 ·
  rw[if_pos hr]
  rw[cc,aH]at hr⊢
  by_cases ha:px x.v.ag (bb x) i=true
  ·
   rw[if_pos ha]at hr;exact absurd rfl hr
  ·
   rw[if_neg ha]at hr⊢
   refine⟨fun e=> .inl ?_,fun e=> .inr ?_⟩
   ·
    rcases zt e with g|g
    ·
     exact absurd g hr
    ·
     exact t9 g
   ·
    have:=(t6 (tG e)).1
    show x.on _=x
    rw[this,FJ]
 ·
  rw[if_neg hr]
  have vu:(cc x.v.ag (bb x) i).2=0:=by simpa using hr
  have kN:=xi (i:=(i:Int)) hx.ag (tE x.v.ag x.v.at_) vu
  rw[aH]at kN
  change 0≤(cc x.v.ag (bb x) i).1→2≤(cc x.v.ag (bb x) i).1∧(cc x.v.ag (bb x) i).1<x.v.ag.blocks.length∧(aj (bK x.v.ag ((bb x).set i bc)).1 (cc x.v.ag (bb x) i).1).bad=false at kN
  have hT:(fP (bb x)=0∧(cc x.v.ag (bb x) i).1= -1)∨ ∃(t:Nat) (w:Int),t≠i∧t<x.v.ag.blocks.length -2∧(cc x.v.ag (bb x) i).1=(t:Int)+2∧aB (bK x.v.ag ((bb x).set i bc)).1 x.v.at_=(bb x).set t ⟨0,0,w,false⟩:=by
   by_cases ha:px x.v.ag (bb x) i=true
   ·
    left
    refine⟨Pa ?_,by rw[cc,if_pos ha]⟩
    rw[px,aH,Bool.and_eq_true,decide_eq_true_eq]at ha
    exact ha.1
   ·
    right
    rw[cc,if_neg ha,aH]at vu⊢
    exact t0 vu
  have cH:0≤(cc x.v.ag (bb x) i).1→(cc x.v.ag (bb x) i).1≠(i:Int)+2:=fun g=>by
   rcases hT with⟨_,e⟩|⟨t,w,e1,_,e2,_⟩
   ·
    omega
   ·
    omega
  clear t0 t6 t9 tc Pa
  generalize(cc x.v.ag (bb x) i).1=to at*
  generalize(bK x.v.ag ((bb x).set i bc)).1=c1 at*
  have di:=k1.cx
  have rv:=k1.ok hx.ag
  have dW:=hx.on rv di
  have yd:=h.kp k1
  have abe:=(nn k1.toKd).1
  have Pb:0≤to→2≤to∧to<c1.blocks.length∧(aj c1 to).bad=false:=fun g=>by
   have:=kN g;rw[di.len];exact this
  obtain⟨m1,m2,m3,m4⟩:=Dk (v:=(x.on c1).v) (src:=(i:Int)+2) (to:=to) (by omega) cH (by show 1≤c1.ae;rw[di.ae];omega) (x.on c1).v.at_ 0 (c:=(x.on c1).v.ag) (a:=(x.on c1).v.at_) rv yd.pl (.bY _ _) yd.pl rfl Pb rfl (fun _ _=>rfl) (fun j n hj=>by omega) rfl
  obtain⟨mb1,mb2⟩:=H3 (v:=(x.on c1).v) (src:=(i:Int)+2) (to:=to) (x.on c1).v.at_ 0 (c:=(x.on c1).v.ag) (a:=(x.on c1).v.at_) Pb
  have abf:=fun(t:Nat) (ht:t<c1.blocks.length -2)=>H2 (v:=(x.on c1).v) (src:=(i:Int)+2) (t:=t) (x.on c1).v.at_ 0 (c:=(x.on c1).v.ag) (a:=(x.on c1).v.at_) (m:=0) rv (.bY _) ht yd.pl yd.pl.pO rfl rfl (fun _ _=>rfl) (fun _ _ q _=>q)
  have hm6:0≤to→(ca (x.on c1).v ((i:Int)+2) to (x.on c1).v.at_ 0 (x.on c1).v.ag (x.on c1).v.at_).e≠some 6:=fun g=>H6 g _ _
  rw[cY]
  by_cases hE: ∃e,(ca (x.on c1).v ((i:Int)+2) to (x.on c1).v.at_ 0 (x.on c1).v.ag (x.on c1).v.at_).e=some e
  ·
   obtain⟨e,hE⟩:=hE
   rw[hE]
   simp only[true_or,if_true]
   refine⟨fun g=> .inl ?_,fun g=> .inl ?_⟩
   ·
    have:=mb2 (by rw[hE,g])
    show cq x.v.ag<cq (ca _ _ _ _ _ _ _).c
    have hh:cq (x.on c1).v.ag=cq c1:=rfl
    omega
   ·
    rcases hT with⟨e1,_⟩|⟨t,w,_,_,e2,_⟩
    ·
     exact e1
    ·
     exact absurd (by rw[hE,g]) (hm6 (by omega))
  ·
   have H7:(ca (x.on c1).v ((i:Int)+2) to (x.on c1).v.at_ 0 (x.on c1).v.ag (x.on c1).v.at_).e=none:=by
    cases hq:(ca (x.on c1).v ((i:Int)+2) to (x.on c1).v.at_ 0 (x.on c1).v.ag (x.on c1).v.at_).e with
    |none=>rfl
    |some e=>exact absurd ⟨e,hq⟩ hE
   rw[H7]
   simp only
   obtain⟨g1,g2,g3,g4⟩:=m2 H7
   generalize hM:ca (x.on c1).v ((i:Int)+2) to (x.on c1).v.at_ 0 (x.on c1).v.ag (x.on c1).v.at_=M at*
   have hkM:=m1.ok rv
   have ye:cf ((x.on c1).on M.c):=dW.on hkM m1.cx
   have hRM:=yd.kp m1
   have rH:=di.trans m1.cx
   have hW:=HH (a:=M.a) ye hRM ((bE.kd k1.toKd).kd m1.toKd) g1 g3
   have DF:=aa5 (a:=M.a) ye
   have ajw:=FK (a:=M.a) ye
   have hWb:=(nn hW.1.kd).1
   have hW6:=Ca ((x.on c1).on M.c) M.a
   generalize et ((x.on c1).on M.c) M.a=W at*
   by_cases hw:W.2=0
   ·
    have hH:=hW.2 hw
    have H8:=(hW.1.aZ hw).1
    have DG:dL x.v.ag W.1.v.ag:=rH.trans hW.1.kd.cx
    have Pc:aT W.1.v.ag=true:=(eo.1 H8.bears).1
    have DH:Std W.1.v.ag M.a:=by have:=H8.pl.pO;rwa [hH]at this
    have qk:k7 M.a W.1.v.ag ((i:Int)+2):=by
     have:k7 M.a c1 ((i:Int)+2):=g4
     exact this.cx (m1.cx.trans hW.1.kd.cx)
    have Pd:fm W.1.v.ag.ae W.1.v.at_ i=0:=by rw[hH];exact(Aq (by rw[DG.ae];omega) DH i).2 qk
    have Pe:i<W.1.v.ag.blocks.length -2:=by rw[DG.len];exact hi
    have hbM:=nn m1.toKd
    have H9:cq M.c≤cq W.1.v.ag:=hWb
    have abg:cq c1≤cq M.c:=mb1
    cases sh:(aj W.1.v.ag ((i:Int)+2)).bad with
    |true=>
     have hM:(aj M.c ((i:Int)+2)).bad=true:=by rw[←sh,DF i];rfl
     have CD:cq x.v.ag<cq M.c:=(nn (k1.toKd.trans m1.toKd)).2 _ (by clear hT;omega) (by clear hT;omega) hb hM
     by_cases hf:(decide (W.2=0)=false)∨((bb x).getD i du).used=x.v.ag.ae
     ·
      rw[if_pos hf]
      exact⟨fun _=> .inl (Nat.lt_of_lt_of_le CD H9),fun g=>absurd (hw.symm.trans g) (by decide)⟩
     ·
      rw[if_neg hf]
      refine⟨fun _=> .inl ?_,fun g=>absurd (tG g) (zr _ _)⟩
      have:=(nn (vS (L:=W.1.v.at_) (c:=W.1.v.ag) (b:=(i:Int)+2) (by omega) (by rw[hH];exact qk)).toKd).1
      exact Nat.lt_of_lt_of_le CD (Nat.le_trans H9 this)
    |false=>
     have abh:fP (bb x)=0∨ ∃(t:Nat) (m' w':Int),t≠i∧t<x.v.ag.blocks.length -2∧aB W.1.v.ag M.a=((bb x).set t ⟨m',m',w',false⟩).set i ⟨0,(aj x.v.ag ((i:Int)+2)).used,(aj x.v.ag ((i:Int)+2)).aS,false⟩:=by
      rcases hT with⟨e1,_⟩|⟨t,w,z1,z2,z3,z4⟩
      ·
       exact .inl e1
      ·
       right
       subst z3
       have As:Std c1 x.v.at_:=yd.pl.pO
       have oM:aB c1 (x.v.at_++x.v.at_)=(bb x).set t ⟨0,0,w,false⟩:=by
        rw[←z4]
        exact aaL (by rw[di.ae];omega) As (As.append As) (.bY _) fun k=>⟨rfl,rfl,rfl,fun _=>yb (fun m _=>by rw[List.mem_append];exact or_self_iff) (by rw[di.ae];omega)⟩
       have GC:t<c1.blocks.length -2:=by rw[di.len];exact z2
       have AY:=vZ (c:=c1) (fl:=x.v.at_++x.v.at_) (by rw[di.ae];omega) (As.append As) GC
       rw[oM,List.getElem?_set_self (by rw[show(bb x).length=_ from kf _ _];exact z2)]at AY
       obtain⟨u1,u2,u3⟩:=aa7 (Option.some.inj AY).symm
       have pe:=abf t GC (by show fm c1.ae (x.v.at_++x.v.at_) t=0;omega) u2 u1
       rw[hM]at pe
       obtain⟨e3,⟨m',w',e4⟩,e5⟩:=pe H7
       have Pf:aB M.c (x.v.at_++M.a)=(bb x).set t ⟨m',m',w',false⟩:=by
        have:aB M.c (x.v.at_++M.a)=(aB c1 (x.v.at_++x.v.at_)).set t ⟨m',m',w',false⟩:=e4
        rw[this,oM,List.set_set]
       have Pg:Std M.c (x.v.at_++M.a):=(uk.kd k1.toKd (fun _ q=>q)|>.kd m1.toKd fun _ q=>q).append e3
       have ng:1≤M.c.ae:=by rw[rH.ae];omega
       have Ph:=vZ (c:=M.c) (fl:=x.v.at_++M.a) ng Pg (i:=i) (by rw[rH.len];exact hi)
       rw[Pf,List.getElem?_set_ne z1,show(bb x)[i]? =_ from Ar,oP (by rw[←sh,DF i];rfl)]at Ph
       have Pj:=Option.some.inj Ph
       refine⟨t,m',w',z1,z2,?_⟩
       rw[←Pf]
       refine HO ng Pg DH (by have:=hW.1.kd.cx;exact this) (fun k hk=>⟨DF k,yb (fun q hq=> ?_) ng⟩) ?_
       ·
        rw[List.mem_append]
        refine⟨.inr,fun g=>g.elim (fun g=> ?_) id⟩
        obtain⟨z,hz⟩:=List.getElem?_of_mem g
        have:=e5 z q hz (.inr (by show(q -1)/c1.ae≠_;rw[←show M.c.ae=c1.ae from m1.cx.ae,hq];omega))
        exact List.mem_of_getElem? this
       ·
        have hz:=Pd
        rw[hH]at hz
        rw[oP sh,hz,DF i]
        have v1:=congrArg aA.used Pj
        have v2:=congrArg aA.aS Pj
        simp only at v1 v2
        rw[show(aj ((x.on c1).on M.c).v.ag ((i:Int)+2)).used=_ from v1.symm,show(aj ((x.on c1).on M.c).v.ag ((i:Int)+2)).aS=_ from v2.symm];rfl
     have Pk: ∀{u w:Int},(u=0∨u=x.v.ag.ae)→fP (bb x)=0∨ ∃(t:Nat) (m' w':Int),t≠i∧t<x.v.ag.blocks.length -2∧aB W.1.v.ag M.a=((bb x).set t ⟨m',m',w',false⟩).set i ⟨0,(aj x.v.ag ((i:Int)+2)).used,(aj x.v.ag ((i:Int)+2)).aS,false⟩∧pP x.v.ag.ae (((bb x).set t ⟨m',m',w',false⟩).set i ⟨0,u,w,false⟩)<vY x:=fun{u w} hu=>by
      rcases abh with e1|⟨t,m',w',z1,z2,z3⟩
      ·
       exact .inl e1
      ·
       right
       refine⟨t,m',w',z1,z2,z3,?_⟩
       have hgt:(bb x)[t]? =_:=vZ (c:=x.v.ag) (fl:=x.v.at_) (by omega) uk z2
       have lq:=HR (p:=x.v.ag.ae) (x:=⟨m',m',w',false⟩) hgt
       have ajx:nj x.v.ag.ae ⟨m',m',w',false⟩=0:=by
        rw[nj];simp only[Bool.false_eq_true,if_false]
        split
        ·
         rename_i e;rw[if_neg (by omega)]
        ·
         omega
       have abi:((bb x).set t ⟨m',m',w',false⟩)[i]? =_:=(List.getElem?_set_ne z1).trans Ar
       have GA:1≤nj x.v.ag.ae ⟨fm x.v.ag.ae x.v.at_ i,(aj x.v.ag ((i:Int)+2)).used,(aj x.v.ag ((i:Int)+2)).aS,false⟩:=by
        rw[nj];simp only[Bool.false_eq_true,if_false]
        rw[if_neg (by omega)];omega
       have kg:=HR (p:=x.v.ag.ae) (x:=⟨0,u,w,false⟩) abi
       have aba:nj x.v.ag.ae ⟨0,u,w,false⟩=0:=by
        rw[nj];simp only[Bool.false_eq_true,if_false,if_true]
        rw[if_neg (by omega)]
       change _<pP x.v.ag.ae (bb x)
       omega
     by_cases hf:(decide (W.2=0)=false)∨((bb x).getD i du).used=x.v.ag.ae
     ·
      rw[if_pos hf]
      refine⟨fun _=> .inr ⟨aa8 (vr (xZ.2 H8)) (by rw[hH];exact DH) Pe sh Pd,?_⟩,fun g=>absurd (hw.symm.trans g) (by decide)⟩
      have abj:(aj x.v.ag ((i:Int)+2)).used=x.v.ag.ae:=by
       rcases hf with g|g
       ·
        simp only[hw,decide_true,Bool.true_eq_false]at g
       ·
        rw[H5]at g;exact g
      rcases Pk (u:=(aj x.v.ag ((i:Int)+2)).used) (w:=(aj x.v.ag ((i:Int)+2)).aS) (.inr abj)with e1|⟨t,m',w',z1,z2,z3,z4⟩
      ·
       exact .inl e1
      ·
       right
       rw[vY,DG.ae,hH,z3];exact z4
     ·
      rw[if_neg hf]
      refine⟨fun g=> ?_,fun g=>absurd (tG g) (zr _ _)⟩
      have kc:=(vh ((i:Int)+2) Pc).2
      rcases zt g with q1|q1
      ·
       right
       obtain⟨b1,b2⟩:=HP Pc DH qk q1
       refine⟨?_,?_⟩
       ·
        show 1≤fP (aB (cG W.1.v.ag ((i:Int)+2)).1 W.1.v.at_)
        rw[hH,b1]
        exact Dw (List.getElem?_set_self (by rw[kf];exact Pe)) rfl rfl
       ·
        rcases Pk (u:=0) (w:=(aj W.1.v.ag ((i:Int)+2)).aS+1) (.inl rfl)with e1|⟨t,m',w',z1,z2,z3,z4⟩
        ·
         exact .inl e1
        ·
         right
         show pP (cG W.1.v.ag ((i:Int)+2)).1.ae (aB (cG W.1.v.ag ((i:Int)+2)).1 W.1.v.at_)<_
         rw[hH,b1,kc.ae,DG.ae,z3,List.set_set];exact z4
      ·
       left
       have:=DC sh q1
       exact Nat.lt_of_le_of_lt (Nat.le_trans abe (Nat.le_trans abg H9)) this
   ·
    have hf:(decide (W.2=0)=false)∨((bb x).getD i du).used=x.v.ag.ae:= .inl (decide_eq_false hw)
    rw[if_pos hf]
    exact⟨fun g=>absurd g hw,fun g=>absurd g hW6⟩
where
 H6 {v:VV} {src to:Int} (ht:0≤to): ∀(l:List Int) (id:Nat) {c:CV} {a:List Int},(ca v src to l id c a).e≠some 6
  |[],id,c,a=>by simp[ca]
  |n::r,id,c,a=>by
   have hB:bV c v.at_ a src to=(to,true):=by rw[bV,if_neg (by omega)]
   rw[ca,hB]
   split
   ·
    exact H6 ht r (id+1)
   ·
    rw[if_neg (by simp)]
    split
    ·
     intro g
     have g:=Option.some.inj g
     rw[dA,dr]at g
     split at g
     ·
      cases g
     ·
      cases g
    ·
     split
     ·
      intro g
      have g:=tG (Option.some.inj g)
      have:=vq c to (aj c to).used (dA c ((v.gen:Int)+1) id n).1
      simp only[bm]at g;omega
     ·
      exact H6 ht r (id+1)
open Go.ay
theorem Pm{c:CV}{l:List aA}(h:(kj c l).2=true):1≤fP l∧0≤(kj c l).1∧(kj c l).1<l.length:=by
 obtain⟨z,hz,a1,a2,a3,a4,a5⟩:=oC (fun x h=>(kA h).1) (show(fH (bZ (m7 c.ae) l) c.ae mg [sa]).2=true from h)
 exact⟨Dw hz a1 (kA a3).2.1,a4,a5⟩
theorem Pn{x:WV}{l:List aA}(hk:aT x.v.ag=true)(hl:l.length=x.v.ag.blocks.length -2):Cs 17 x.v.ag (jF x l).1.v.ag:=by
 rw[jF]
 by_cases h:(kj x.v.ag l).2=false
 ·
  rw[if_pos h];exact(Cs.bY _).mono (by omega)
 ·
  rw[if_neg h]
  obtain⟨_,h1,h2⟩:=Pm (O9 h)
  exact Dz _ hk (by omega) (by omega)
theorem Po{x:WV}{i:Nat}(hx:cf x)(h:dw x.v)(hi:i<x.v.ag.blocks.length -2):Cs 164 x.v.ag (eC x (bb x) i).1.v.ag∧dL x.v.ag (eC x (bb x) i).1.v.ag:=by
 have hd:=eH hx.ag
 have zQ:3≤x.v.ag.blocks.length:=by have:=hx.oD;omega
 have aH:(i:Int).toNat=i:=rfl
 have kN:=(Cb (l:=bb x) (i:=(i:Int)) hx (tE _ _)).1
 refine⟨?_,kN.cx⟩
 have tc:=(O5 (i:=i) hx.ag h.pl.pO zQ).2.2.1
 have k1:=(HI ((Dg x.v.ag x.v.at_).set i)).1
 change Kp x.v.at_ x.v.ag (bK x.v.ag ((bb x).set i bc)).1 at k1
 change Cs 17 x.v.ag (bK x.v.ag ((bb x).set i bc)).1 at tc
 have pN:=xi (i:=(i:Int)) hx.ag (tE x.v.ag x.v.at_)
 rw[aH]at pN
 rw[eC,aH]
 by_cases hr:(cc x.v.ag (bb x) i).2≠0
 ·
  rw[if_pos hr];exact tc.mono (by omega)
 ·
  rw[if_neg hr]
  have pN:=pN (by simpa[bb]using hr)
  change 0≤(cc x.v.ag (bb x) i).1→2≤(cc x.v.ag (bb x) i).1∧(cc x.v.ag (bb x) i).1<x.v.ag.blocks.length∧(aj (bK x.v.ag ((bb x).set i bc)).1 (cc x.v.ag (bb x) i).1).bad=false at pN
  generalize(cc x.v.ag (bb x) i).1=to at*
  generalize(bK x.v.ag ((bb x).set i bc)).1=c1 at*
  have di:=k1.cx
  have dW:=hx.on (k1.ok hx.ag) di
  have yf:Cs 130 c1 (cY (x.on c1) ((i:Int)+2) to).1.v.ag:=by
   have hm:=B8 (v:=(x.on c1).v) (to:=to) (x.on c1).v.at_ 0 (c:=(x.on c1).v.ag) (a:=(x.on c1).v.at_) (src:=(i:Int)+2) dW.ag (.bY _) (Int.le_refl _) dW.re (fun g=>by have:=pN g;exact⟨this.1,by show to<c1.blocks.length;rw[di.len];exact this.2.1,this.2.2⟩)
   have yf:=HZ (v:=(x.on c1).v) (src:=(i:Int)+2) (to:=to) (x.on c1).v.at_ 0 (c:=(x.on c1).v.ag) (a:=(x.on c1).v.at_)
   have hf:x.v.at_.length≤64:=hx.nL
   change Cs x.v.at_.length c1 _ at yf
   rw[cY]
   split
   ·
    exact yf.mono (by omega)
   ·
    generalize ca (x.on c1).v ((i:Int)+2) to (x.on c1).v.at_ 0 (x.on c1).v.ag (x.on c1).v.at_=M at*
    have ye:=dW.on hm.1 hm.2.1
    have hw:=O2 (a:=M.a) ye
    have hb:=xj (et ((x.on c1).on M.c) M.a).1.v.ag
    have hwl:(et ((x.on c1).on M.c) M.a).1.v.ag.blocks.length≤32:=by
     have:aT (et ((x.on c1).on M.c) M.a).1.v.ag=true∧True:=⟨Pp ye,trivial⟩
     have:=eH this.1;omega
    exact(yf.trans hw).mono (by omega)
  have DI:=zq (x:=x.on c1) (src:=(i:Int)+2) (to:=to) dW (fun g=>by have:=pN g;exact⟨this.1,by show to<c1.blocks.length;rw[di.len];exact this.2.1,this.2.2⟩)
  split
  ·
   exact(tc.trans yf).mono (by omega)
  ·
   have hc:=Dz ((i:Int)+2) DI.1.ok.ag (by omega) (by rw[DI.1.cx.len];show(i:Int)+2<(c1.blocks.length:Int);rw[di.len];omega)
   exact((tc.trans yf).trans hc).mono (by omega)
where
 Pp {y:WV} {a:List Int} (hy:cf y):aT (et y a).1.v.ag=true:=by
  rw[et];split
  ·
   exact hy.ag
  ·
   exact Pq _ hy
 Pq: ∀(n:Nat) {y:WV} {a:List Int} {b:List UInt8},cf y→aT (fh n y a b).1.v.ag=true
  |0,y,a,b,hy=>hy.ag
  |n+1,y,a,b,hy=>by
   have bR:=xd (last:=y.v.last) hy.ag hy.last
   have xF:=iI bR.1 (aV y.v.ag y.v.last).2.1 b
   rw[fh]
   split
   ·
    exact bR.1
   ·
    split
    ·
     exact xF
    ·
     split
     ·
      exact xF
     ·
      exact Pq n (hy.on xF (bR.2.1.trans (gm _ _ _)))
theorem abk{x:WV}(hx:cf x)(h:dw x.v)(bE:fa x.v.ag)(hn:DD x.v.ag):Cs 181 x.v.ag (eP x).1.v.ag∧((eP x).2=0→DE x (eP x).1):=by
 have hl:(bb x).length=x.v.ag.blocks.length -2:=kf _ _
 have ht:=Pn (l:=bb x) hx.ag hl
 rw[eP]
 by_cases hv:(iS x).2=true∧vj x.v.gen=false
 ·
  rw[if_pos hv]
  obtain⟨i,v1,v2,v3,v4,v5⟩:=abb hx h hv.1
  rw[v1]
  obtain⟨r1,r2⟩:=abd hx h bE hn v2 v3 v4 v5
  obtain⟨c1,c2⟩:=Po hx h v2
  have kN:=(Cb (l:=bb x) (i:=(i:Int)) hx (tE _ _)).1
  by_cases h6:(eC x (bb x) i).2≠6
  ·
   rw[if_pos h6];exact⟨c1.mono (by omega),r1⟩
  ·
   rw[if_neg h6]
   have tH:(eC x (bb x) i).2=6:=by simpa using h6
   refine⟨(c1.trans (Pn (l:=bb x) kN.ok.ag (by rw[c2.len];exact hl))).mono (by omega),fun e=> ?_⟩
   rcases r2 tH with g|g
   ·
    exfalso
    by_cases hD:(kj (eC x (bb x) i).1.v.ag (bb x)).2=false
    ·
     rw[jF,if_pos hD]at e;exact absurd (show(6:Int)=0 from e) (by decide)
    ·
     have:=(Pm (O9 hD)).1
     omega
   ·
    rw[g]at e⊢;exact O8 hx h e
 ·
  rw[if_neg hv]
  exact⟨ht.mono (by omega),O8 hx h⟩
def um(x:WV):Nat:=(32 -cq x.v.ag)*1200+(if fP (bb x)=0 then 600 else 0)+vY x
theorem abl{x:WV}(h:cf x):um x≤39480:=by
 have:=HS h
 rw[um];split<;>omega
theorem abm{x y:WV}(h:cf x)(g:cf y)(hb:cq x.v.ag≤cq y.v.ag)(e:DE x y):um y<um x:=by
 have h1:=HS h
 have h2:=HS g
 have h3:=xj y.v.ag
 have h4:=eH g.ag
 rw[um,um]
 rcases e with e|⟨e1,e2⟩
 ·
  split<;>split<;>omega
 ·
  rw[if_neg (by omega)]
  rcases e2 with e2|e2
  ·
   rw[if_pos e2];omega
  ·
   split<;>omega
def kI(k:Int)(c:CV):Prop:=c.ops+k<cN∧ ∀b:Int,(aj c b).aS+k<cN
theorem kI.cs{k m:Int}{c d:CV}(h:kI (k+m) c)(g:Cs m c d):kI k d:=⟨by have:=h.1;have:=g.ops;omega,fun b=>by have:=h.2 b;have:=g.aS b;have:=g.ops;omega⟩
theorem kI.mono{k m:Int}{c:CV}(h:kI k c)(g:m≤k):kI m c:=⟨by have:=h.1;omega,fun b=>by have:=h.2 b;omega⟩
theorem kI.not{c:CV}(h:kI 0 c): ¬An c:=by
 rintro(g|⟨b,g⟩)
 ·
  have:=h.1;omega
 ·
  have:=h.2 b;omega
theorem abn(n:Nat): ∀{x:WV} {need m:Int},cf x→dw x.v→fa x.v.ag→(um x:Int)≤m→kI (181*m+181) x.v.ag→Cs (181*m+181) x.v.ag (py n x need).1.v.ag:=by
 induction n with
 |zero=>intro x need m hx h bE hm hf;exact(Cs.bY _).mono (by omega)
 |succ n ih=>
  intro x need m hx h bE hm hf
  have CF:DD x.v.ag:=fun b=>by have:=hf.2 b;omega
  have hc:=Oy hx h bE
  have Dq:=Cc hx
  obtain⟨c1,c2⟩:=abk hx h bE CF
  rw[py]
  split
  ·
   exact(Cs.bY _).mono (by omega)
  ·
   split
   ·
    exact(Cs.bY _).mono (by omega)
   ·
    split
    ·
     rename_i h0
     rw[h0]at hc
     have hR:=hc.aZ rfl
     have hl:=abm hx Dq.1.ok (nn hc.kd).1 (c2 h0)
     have j7:kI (181*(m -1)+181) (eP x).1.v.ag:=(hf.mono (m:=181*(m -1)+181+181) (by omega)).cs c1
     have:=ih (need:=need) (m:=m -1) Dq.1.ok hR.1 (bE.kd hc.kd) (by omega) j7
     exact(c1.trans this).mono (by omega)
    ·
     split
     ·
      exact c1.mono (by omega)
     ·
      split
      ·
       exact c1.mono (by omega)
      ·
       exact c1.mono (by omega)
theorem abo{x:WV}{l:List (Int×List UInt8)}(hx:cf x)(h:dw x.v)(bE:fa x.v.ag)(hl:l.length≤64)(hG: ∀y∈l,0≤y.1)(hf:kI 8000000 x.v.ag):Cs 8000000 x.v.ag (iL x l).1.v.ag:=by
 have hmu:=abl hx
 have Pr:Sf x (cl x.v) (dD x l).1 (dD x l).2:=(OA (x:={x with beyond:=false}) (need:=sf l) (hx.by false) h bE).cI
 have ho:=Cd (l:=l) hx
 have cs:Cs 7900000 x.v.ag (dD x l).1.v.ag:=by
  have:=abn ((cN -x.v.ag.ops).toNat+1) (x:={x with beyond:=false}) (need:=sf l) (m:=39480) (hx.by false) h bE (by show((um x:Nat):Int)≤_;omega) (hf.mono (by decide))
  exact Cs.mono this (by decide)
 rw[iL]
 by_cases h0:(dD x l).2≠0
 ·
  rw[if_pos h0];exact cs.mono (by omega)
 ·
  rw[if_neg h0]
  rw[show(dD x l).2=0 by simpa using h0]at Pr
  have hR:=Pr.aZ rfl
  have h3:3≤(dD x l).1.v.ag.blocks.length:=by have:=ho.ok.oD;omega
  have ci:=HY (v:=(dD x l).1.v) (aC:=(dD x l).1.beyond) l (c:=(dD x l).1.v.ag) (a:=(dD x l).1.v.at_) ho.ok.ag h3
  obtain⟨t1,t2,t3⟩:=Dj (v:=(dD x l).1.v) (aC:=(dD x l).1.beyond) l (c:=(dD x l).1.v.ag) (a:=(dD x l).1.v.at_) ho.ok.ag h3 hR.1.pl hR.1.pl hG
  have sh:=xj (iK x l).1
  have yc:=t1.ok ho.ok.ag
  change aT (iK x l).1=true at yc
  have hd:=eH yc
  change Cs (18*(l.length+((cq (iK x l).1:Int) -cq (dD x l).1.v.ag))) (dD x l).1.v.ag (iK x l).1 at ci
  by_cases h1:(iK x l).2.2≠0
  ·
   rw[if_pos h1]
   exact(cs.trans ci).mono (by omega)
  ·
   rw[if_neg h1]
   have dW:=ho.ok.on yc t1.cx
   have hw:=O2 (a:=(iK x l).2.1) dW
   have hbw:=xj (et ((dD x l).1.on (iK x l).1) (iK x l).2.1).1.v.ag
   have hdw:=eH (Po.Pp (a:=(iK x l).2.1) dW)
   exact((cs.trans ci).trans hw).mono (by omega)
theorem Ps{l:List (Int×List UInt8)}(hl:l.length≤64)(hG: ∀y∈l,0≤y.1): ∀(n:Nat) {x:WV},cf x→dw x.v→fa x.v.ag→kI (8000000*(n:Int)) x.v.ag→Cs (8000000*(n:Int)) x.v.ag (m9 n x l).1.v.ag
 |0,x,hx,h,bE,hf=>(Cs.bY _).mono (by omega)
 |n+1,x,hx,h,bE,hf=>by
  have hb:=OB (l:=l) hx h bE hG
  have ho:=FT (l:=l) hx
  have hc:=abo (l:=l) hx h bE hl hG (hf.mono (by omega))
  rw[m9]
  split
  ·
   rename_i h5
   rw[h5.1]at hb
   have hz:=hb.zero (by decide) (by decide) (by decide) (by decide)
   have hR:=hz.aZ rfl
   have:=Ps hl hG n ho.ok hR.1 (bE.kd hz.kd) ((hf.mono (m:=8000000*(n:Int)+8000000) (by omega)).cs hc)
   exact(hc.trans this).mono (by omega)
  ·
   exact hc.mono (by omega)
abbrev qG:Int:=264000000
theorem abp{v:VV}{l:List (Int×List UInt8)}(h:dw v)(bE:fa v.ag)(hl:l.length≤64)(hf:kI qG v.ag):Cs qG v.ag (fQ v l).1.ag:=by
 rw[fQ]
 split
 ·
  exact(Cs.bY _).mono (by decide)
 ·
  rename_i h1
  have Ap:=Classical.not_not.1 h1
  split
  ·
   exact(Cs.bY _).mono (by decide)
  ·
   have hG: ∀y∈l,0≤y.1:=fun y hy=>by
    obtain⟨j,hj⟩:=List.getElem?_of_mem hy
    have:=zu.1 Ap.2.2 j (List.getElem?_eq_some_iff.1 hj).1
    rw[ri,show l.getD j (0,[])=y by simp[List.getD,hj],Bool.and_eq_true,rh,Bool.and_eq_true,Bool.and_eq_true,decide_eq_true_eq]at this
    exact this.1.1.1
   have xT:=vr (b:=false) Ap.1
   have hd:=eH xT.ag
   change 1≤(v.ag.blocks.length:Int)∧(v.ag.blocks.length:Int)≤32∧_ at hd
   have:=Ps hl hG (v.ag.blocks.length+1) (x:=⟨v,false⟩) xT h bE (hf.mono (by show 8000000*((v.ag.blocks.length+1:Nat):Int)≤264000000;omega))
   exact Cs.mono this (by show 8000000*((v.ag.blocks.length+1:Nat):Int)≤264000000;omega)
open Go.ay
def fB(c:CV)(b:Bool)(fs:List Ft):CV:={c with off:=b,aX:=fs}
theorem Pt{c:CV}{b:Bool}{fs:List Ft}(hk:aT c=true)(hl:fs.length≤64):aT (fB c b fs)=true:=by
 obtain⟨h1,h2,h3,_,h5⟩:=eL.1 hk
 exact eL.2 ⟨h1,h2,h3,hl,h5⟩
theorem Ia{c:CV}{fs:List Ft}(hk:aT c=true)(hl:fs.length≤64):nF c fs=0∧mP c fs=fB c false fs:=by
 have h:nF c fs=0:=by rw[nF,if_pos ⟨hk,hl⟩]
 exact⟨h,by rw[mP,if_pos h];rfl⟩
theorem dw.fB{v:VV}(h:dw v){b:Bool}{fs:List Ft}(hl:fs.length≤64):dw {v with ag:=Kb.fB v.ag b fs}:=by
 obtain⟨h1,h2,h3,h4,h5,h6,h7⟩:=h
 obtain⟨k1,k2⟩:=eo.1 h1
 exact⟨eo.2 ⟨Pt k1 hl,k2⟩,h2,h3,h4,h5,h6,h7⟩
theorem fJ.fB{f:FV}(h:fJ f){b:Bool}{fs:List Ft}(hl:fs.length≤64):fJ ⟨{f.an with ag:=Kb.fB f.an.ag b fs},f.table⟩:=
 ⟨h.rt.fB hl,h.gI,h.ids,h.Dr,h.eq⟩
theorem abq{f:FV}{l:List Ch}(h:fJ f)(bE:fa f.an.ag)(he:eu f.table l=0)(hm: ¬dG f.an.ag<(cQ f.table l).length)(hf:kI qG f.an.ag):Cs qG f.an.ag (cg f l).1.an.ag:=by
 have hE:=Dt (l:=l) h
 rw[if_neg hm]at hE
 by_cases hc:eQ (fj f) (fI f l)=[]
 ·
  rw[(OH h he hm hc).1];exact(Cs.bY _).mono (by decide)
 ·
  have hlen:(fj f).length=(fI f l).length:=by
   have:=(C5 hE).1
   have h2:=h.ids
   rw[uj h,zx]
   have:((fI f l).length:Int)=dm f.an.ag:=this
   omega
  have xx:(fj f).length=f.an.at_.length:=by rw[uj h,zx]
  have h64:f.an.at_.length≤64:=(vr (b:=false) (xZ.2 h.rt)).nL
  have wx:(eQ (fj f) (fI f l)).length≤64:=by
   have:=Cj (fj f) (fI f l) (max (fj f).length (fI f l).length)
   rw[eQ];omega
  rw[Ga (vW.2 h) he hE hc]
  exact abp h.rt bE wx hf
theorem abr{f:FV}{l:List Ch}{k:Int}(h:fJ f)(bE:fa f.an.ag)(hk:0≤k)(hf:kI (k+qG) f.an.ag):
  Kd [] f.an.ag (cg f l).1.an.ag∧kI k (cg f l).1.an.ag∧((cg f l).2=0→eu f.table l=0∧(cg f l).1.table=cQ f.table l)∧((cg f l).2≠0→(cg f l).1.table=f.table)∧
   ((cg f l).2≠7→(cg f l).2≠9→fJ (cg f l).1)∧((cg f l).2=7→(cg f l).1.an.ag.off=true)∧
   (∃g:FV,fJ g∧g.an.ag=(cg f l).1.an.ag∧(g.table=f.table∨(((cg f l).2=7∨(cg f l).2=9∨(cg f l).2=0)∧eu f.table l=0∧g.table=cQ f.table l)))∧
   (nT f.table l (dG f.an.ag)≠0→(cg f l).2=nT f.table l (dG f.an.ag)∧(cg f l).1=f):=by
 rw[nT]
 by_cases he:eu f.table l=0
 ·
  by_cases hm:dG f.an.ag<(cQ f.table l).length
  ·
   rw[aaB h he hm,if_pos ⟨he,hm⟩]
   exact⟨.bY _ _,hf.mono (by show k≤k+264000000;omega),fun g=>absurd (show(5:Int)=0 from g) (by decide),fun _=>rfl,fun _ _=>h,fun g=>absurd (show(5:Int)=7 from g) (by decide),⟨f,h,rfl, .inl rfl⟩,fun _=>⟨rfl,rfl⟩⟩
  ·
   have ha:=aaC h bE he hm
   have hc:=abq h bE he hm (hf.mono (by show(264000000:Int)≤k+264000000;omega))
   have Ib:=hf.cs hc
   rw[if_neg (fun g=>hm g.2)]
   refine⟨ha.kd,Ib,fun g=>⟨he,(ha.aZ g).2⟩,ha.bad,fun h7 h9=> ?_,ha.off,?_,fun g=>absurd he g⟩
   ·
    by_cases h0:(cg f l).2=0
    ·
     exact(ha.aZ h0).1
    ·
     rcases ha.err h0 with(g|g|g)|g
     ·
      exact absurd g h7
     ·
      exact absurd g h9
     ·
      exact absurd g.2 (Ib.mono hk).not
     ·
      exact g
   ·
    by_cases uo:(cg f l).2=7∨(cg f l).2=9∨(cg f l).2=0
    ·
     obtain⟨g,g1,g2,g3⟩:=ha.any
     exact⟨g,g1,g2,g3.imp id fun q=>⟨uo,he,q⟩⟩
    ·
     have h0:(cg f l).2≠0:=fun g=>uo (.inr (.inr g))
     refine⟨(cg f l).1,?_,rfl, .inl (ha.bad h0)⟩
     rcases ha.err h0 with(g|g|g)|g
     ·
      exact absurd (.inl g) uo
     ·
      exact absurd (.inr (.inl g)) uo
     ·
      exact absurd g.2 (Ib.mono hk).not
     ·
      exact g
 ·
  rw[aaA h he,if_neg (fun g=>he g.1)]
  have h7:=OJ f.table l
  exact⟨.bY _ _,hf.mono (by show k≤k+264000000;omega),fun g=>absurd g he,fun _=>rfl,fun _ _=>h,fun g=>absurd (show eu f.table l=7 from g) (by omega),⟨f,h,rfl, .inl rfl⟩,fun _=>⟨rfl,rfl⟩⟩
theorem ajy{n p:Nat}(hn:n<8)(hp:p<7):kI (qG*100) (nk n p).1.an.ag∧(nk n p).1.an.ag.off=false:=by
 have h:=HU n hn p hp
 simp only[Dy,Dx,Bool.and_eq_true,decide_eq_true_eq,List.all_eq_true,Bool.not_eq_true']at h
 obtain⟨⟨⟨⟨⟨⟨h1,h2⟩,⟨⟨⟨⟨⟨⟨⟨⟨_,_⟩,h3⟩,h4⟩,h5⟩,h6⟩,h7⟩,h8⟩,h9⟩⟩,_⟩,_⟩,_⟩,_⟩:=h
 refine⟨⟨?_,fun b=> ?_⟩,h5⟩
 ·
  show _+264000000*100<(1099511627776:Int);omega
 ·
  have:(aj (nk n p).1.an.ag b).aS=0:=by
   rcases Nat.lt_or_ge b.toNat (nk n p).1.an.ag.blocks.length with hl|hl
   ·
    have hm:aj (nk n p).1.an.ag b∈(nk n p).1.an.ag.blocks:=by
     simp only[aj,List.getD,List.getElem?_eq_getElem hl,Option.getD_some];exact List.getElem_mem hl
    exact(h3 _ hm).2
   ·
    simp only[aj,List.getD,List.getElem?_eq_none hl,Option.getD_none];rfl
  rw[this];decide
def rJ(l:List Ft):Bool:=l.all fun f=>decide (f.mask=0)||decide (f.mask=255)
theorem DJ{l:List Ft}:rJ l=true↔ ∀f∈l,f.mask=0∨f.mask=255:=by
 simp only[rJ,List.all_eq_true,Bool.or_eq_true,decide_eq_true_eq]
end Go.Kb
namespace Go.Proofs.YtaipiecplldinaaGreat
open Go.ay Go.Kb
open Go.RowKit
theorem abt(w:World)(fs:Sv)(eJ:List Ft)(qx:bW dj 4 (hp w) fs eJ):Calls Tryz.prog 30 #[fs.val] w fun e w'=>e= .returned (.bool (rJ eJ))∧Mem w [] w':=by
 have Mv:Gv w fs dj 4 eJ:=⟨qx⟩
 have hbf:=qx.bd
 refine bh (args:=[_]) Tryz.func30 rfl Tryz.ntmps30 rfl ?_
 change Cw _ _ _ _ _ [(0,fs.val)] []
 refine Gc ?_
 refine Gs ?_
 refine Gc ?_
 refine Gs ?_
 refine Gc ?_
 refine ct (X:=Nat) (fun zz=>[(3, .int .i64 (zz:Nat)),(0,fs.val)]) (fun zz=>[]) (fun zz=>zz≤eJ.length∧ ∀f∈eJ.take zz,f.mask=0∨f.mask=255) (fun zz=>eJ.length -zz) 0 ⟨Nat.zero_le _,fun f hf=>by rw[List.take_zero]at hf;cases hf⟩ (Sub.cons rfl (Sub.cons rfl (Sub.nil _))) (fun w hw=>ai.mem hw) ?_
 rintro i ⟨bl,aH⟩
 refine Gc ?_
 iterate 4 refine Gs ?_
 refine Gc ?_
 refine av rfl (fun h0=> ?_) (fun h0=> ?_)
 ·
  replace h0:=bz h0
  obtain⟨F,hF⟩:=get_some (xs:=eJ) (i:=i) (by omega)
  refine Gc ?_
  iterate 2 refine Gs ?_
  refine ah (bo rfl rfl i rfl (by omega)) ?_
  refine ah (aI rfl rfl) ?_
  refine ah (bO (j:=3) rfl i hF rfl (by decide)) ?_
  iterate 2 refine Gs ?_
  iterate 2 refine Gg ?_
  refine gv rfl rfl rfl (fun hg=>(Ry.yl (bo (aG hg rfl) (aG hg rfl) i rfl (by simp only[Z0,Z1,Z2,Z3,Z4,Z5,Z6,Z7,Z8,Z9]at hg;omega)))) ?_
  refine gv rfl rfl rfl (fun hg=>(Ry.yl (aI (aG hg rfl) rfl))) ?_
  refine gv rfl rfl rfl (fun hg=>(Ry.yl (bO (j:=3) (aG hg rfl) i hF rfl (by decide)))) ?_
  refine Gg ?_
  refine Gs ?_
  refine Gc ?_
  refine av rfl (fun h1=> ?_) (fun h1=> ?_)
  ·
   replace h1:=bz h1
   have hr:rJ eJ=false:=by
    cases hq:rJ eJ with
    |false=>rfl
    |true=>exact absurd (DJ.1 hq F (List.mem_of_getElem? hF)) (by rintro(g|g)<;>simp[g]at h1)
   refine Gc ?_
   refine Gs ?_
   refine Gc ?_
   refine au (.inl rfl) (aQ rfl (aq rfl)) (fun w1 hw=> ?_)
   exact⟨congrArg (fun b=>Ending.returned (Value.bool b)) (hr.symm),ai.mem hw⟩
  ·
   replace h1:=bz h1
   have hF2:F.mask=0∨F.mask=255:=by
    by_cases g:F.mask=0
    ·
     exact .inl g
    ·
     right
     have g2: ¬F.mask.toNat=0:=fun e=>g (UInt8.toNat_inj.1 e)
     have h2:F.mask.toNat=0∨(F.mask.toNat:Int)=255:=by simpa using h1
     exact UInt8.toNat_inj.1 (show F.mask.toNat=255 by have:=h2.resolve_left g2;omega)
   refine Gc ?_
   iterate 3 refine Gs ?_
   refine Gi ?_
   exact bI (x:=(i)) (i+1) ⟨by first|omega|(simp only[];omega),fun f hf=>by
    rw[List.take_add_one,hF]at hf
    rcases List.mem_append.1 hf with g|g
    ·
     exact aH f g
    ·
     obtain rfl:f=F:=by simpa using g
     exact hF2⟩ (by first|omega|(simp only[];omega)) (Sub.cons rfl (Sub.cons rfl (Sub.nil _))) (fun w hw=>ai.mem hw)
 ·
  replace h0:=bz h0
  obtain rfl:i=eJ.length:=by omega
  have hr:rJ eJ=true:=DJ.2 (by rw[List.take_length]at aH;exact aH)
  refine Gc ?_
  refine Gs ?_
  refine Gc ?_
  refine au (.inl rfl) (aQ rfl (aq rfl)) (fun w1 hw=> ?_)
  exact⟨congrArg (fun b=>Ending.returned (Value.bool b)) (hr.symm),ai.mem hw⟩
instance ajz{w0:World}{L:List ak}{fs:Sv}{eJ:List Ft}[qx:c8 w0 L dj 4 fs eJ]:cR Tryz.prog 30 w0 L [fs.val] (.bool (rJ eJ)) (True):=⟨fun hp w hw=>abt w fs eJ (qx.h w hw)⟩
end Go.Proofs.YtaipiecplldinaaGreat
namespace Go.Kb
open Go.ay
theorem Ic{c:CV}{b k:Int}{p:List UInt8}(h:k.toNat≠b.toNat):aj (bj c b p) k=aj c k:=by
 rw[bj,gk]
 split
 ·
  rw[iO]
  split
  ·
   rename_i hm
   have hh:fu (dt c b (aj c b).used p) b=true:=by
    cases hq:fu (dt c b (aj c b).used p) b with
    |true=>rfl
    |false=>rw[jR,if_neg (by rw[hq];simp)]at hm;cases hm
   obtain⟨_,h3,h4⟩:=fv.1 hh
   have:=mz (c:=dt c b (aj c b).used p) (o:=(dt c b (aj c b).used p).ops) (f:=(dt c b (aj c b).used p).off) (B:={aj (dt c b (aj c b).used p) b with bad:=true}) (show b.toNat<(dt c b (aj c b).used p).blocks.length by omega) k
   rw[if_neg h]at this
   rw[this,uh h]
  ·
   rw[uh h]
 ·
  rw[uh h]
theorem abu{c:CV}{b:Int}{p:List UInt8}(h:bm c b p=0):bD (bj c b p) (b*c.ae+(aj c b).used)=p∧(b*c.ae+(aj c b).used)/c.ae=b∧(b*c.ae+(aj c b).used)%c.ae=(aj c b).used:=by
 obtain⟨h1,h3,h4,h5,e⟩:=nK h
 obtain⟨j1,j2,j3,j4,j5⟩:=iF.1 h1
 have hd:(b*c.ae+(aj c b).used)/c.ae=b:=by
  rw[Int.add_comm,Int.add_mul_ediv_right _ _ (by omega),Int.ediv_eq_zero_of_lt j2 j3,Int.zero_add]
 have hm:(b*c.ae+(aj c b).used)%c.ae=(aj c b).used:=by
  rw[Int.add_comm,Int.add_mul_emod_self_right,Int.emod_eq_of_lt j2 j3]
 have bE:=(eX.1 (ox j1)).1
 refine⟨?_,hd,hm⟩
 rw[e]
 show(aj _ ((b*c.ae+(aj c b).used)/c.ae)).ae.getD ((b*c.ae+(aj c b).used)%c.ae).toNat []=p
 rw[hd,hm,eM,oB j1]
 simp only[List.getD]
 rw[List.getElem?_set_self (by omega),l8,h5];rfl
structure Rw(b:Int)(c:CV):Prop where
 bears:fx c=true
 pl:fa c
 used:(aj c b).used=0
 bad:(aj c b).bad=false
 ops:c.ops<cN
 abv:gn c (1 -b)+(1 -b).toNat≤1
 sB: ∀k,0≤k→k<2*c.ae→(bw (bD c k)).2=0→(bw (bD c k)).1.gen≤1∧((bw (bD c k)).1.gen=1→k≤b*c.ae)
theorem Rw.first{b:Int}{c:CV}(h:Rw b c):fy c b=1:=by
 have:=h.abv
 rw[fy];omega
theorem Rw.done{b:Int}{c:CV}{ids:Nat}(h:Rw b c)(h0:0≤b)(h1:b<2)(hm:lM ⟨1,List.replicate ids 0⟩ c.size=true)(hz:bm c b (cj ⟨1,List.replicate ids 0⟩ c.size).1=0):dw (vn (bj c b (cj ⟨1,List.replicate ids 0⟩ c.size).1) b ids 1):=by
 have su:=Hv hm
 generalize(cj ⟨1,List.replicate ids 0⟩ c.size).1=pg at*
 obtain⟨k1,k2,k3,k4⟩:=eo.1 h.bears
 have di:=gm c b pg
 have hP:=di.ae
 have kF:fx (bj c b pg)=true:=eo.2 ⟨iI k1 b pg,by rw[di.len];exact k2,by rw[hP];exact k3,by rw[di.size];exact k4⟩
 obtain⟨q1,q2,q3⟩:=abu hz
 rw[h.used,Int.add_zero]at q1 q2 q3
 have hH:=Dv hz
 have mw:0≤b*c.ae:=Int.mul_nonneg h0 (by omega)
 have pv:b*c.ae<2*c.ae:=Int.mul_lt_mul_of_pos_right h1 (by omega)
 have kN:=HE kF (i:=b*c.ae) mw (by rw[hP];exact pv) (by rw[q1,su]) (fun k k0 sO hv=>by
  rw[q1,su]
  rw[hP]at sO
  by_cases e:k/c.ae=b
  ·
   rcases HF h.pl k0 (by omega) e hv with⟨g,_⟩|⟨g,g2⟩
   ·
    rw[g]at hv⊢
    have:=h.sB k k0 sO hv
    simp only;omega
   ·
    have hme:k=b*c.ae:=by
     have h3:=Int.mul_ediv_add_emod k c.ae
     have h4:=Int.emod_nonneg k (show c.ae≠0 by omega)
     rw[hH.1,h.used]at g2
     rw[e,Int.mul_comm]at h3
     omega
    rw[g,su,hme];simp only;omega
  ·
   have Pu:=Int.ediv_nonneg k0 (show 0≤c.ae by omega)
   have Ie:bD (bj c b pg) k=bD c k:=by
    rw[bD,bD,hP,Ic (by omega)]
   rw[Ie]at hv⊢
   have:=h.sB k k0 sO hv
   simp only;omega)
 rw[q1,su]at kN
 refine⟨kF,?_,?_,⟨fun i y hy h0=> ?_,fun i j y hi hj h0=> ?_⟩,?_,?_,?_⟩
 ·
  show(bL (bj c b pg)).2.2=0;rw[kN]
 ·
  show(bL (bj c b pg)).1%(bj c b pg).ae<(aj (bj c b pg) ((bL (bj c b pg)).1/(bj c b pg).ae)).used
  rw[kN];simp only
  rw[hP,q3,q2,hH.1,h.used];decide
 ·
  exact absurd (List.eq_of_mem_replicate (List.mem_of_getElem? hy)) h0
 ·
  exact absurd (List.eq_of_mem_replicate (List.mem_of_getElem? hi)) h0
 ·
  show(bL (bj c b pg)).2.1.at_=_;rw[kN];rfl
 ·
  show(bL (bj c b pg)).2.1.gen=_;rw[kN];rfl
 ·
  show(bL (bj c b pg)).1/(bj c b pg).ae=b;rw[kN,hP];exact q2
structure Fr(c:CV):Prop where
 bears:fx c=true
 pl:fa c
 off:c.off=false
 used: ∀b:Int,(aj c b).used=0
 bad: ∀b:Int,(aj c b).bad=false
 g0:gn c 0=0
 g1:gn c 1=0
 Au:kI (qG*100) c
theorem Fr.none{c:CV}(h:Fr c){k:Int}(k0:0≤k)(k1:k<2*c.ae)(hv:(bw (bD c k)).2=0):(bw (bD c k)).1.gen=0:=by
 obtain⟨b1,b2,b3,b4⟩:=eo.1 h.bears
 obtain⟨r0,r1⟩:=vT h.bears
 have Pu:=Int.ediv_nonneg k0 (show 0≤c.ae by omega)
 have lP:0≤k%c.ae:=Int.emod_nonneg _ (by omega)
 have na:k%c.ae<c.ae:=Int.emod_lt_of_pos _ (by omega)
 have uO:k/c.ae<2:=Int.ediv_lt_of_lt_mul (by omega) k1
 have lf: ∀b:Int,k/c.ae=b→((aj c b).ae.length:Int)=c.ae→bD c k∈(aj c b).ae:=fun b hb hl=>by
  rw[bD,hb]
  simp only[List.getD]
  rw[List.getElem?_eq_getElem (show(k%c.ae).toNat<(aj c b).ae.length by omega)]
  exact List.getElem_mem _
 have:iJ (bD c k)=0:=by
  rcases(show k/c.ae=0∨k/c.ae=1 by omega)with e|e
  ·
   exact OV h.g0 (lf 0 e r0)
  ·
   exact OV h.g1 (lf 1 e r1)
 rwa [iJ,if_pos hv]at this
theorem Pv: ∀(n:Nat) (b:Int) {c:CV},(∀k:Int,se c k=false)→kh n b c=(c,0)
 |0,b,c,h=>rfl
 |n+1,b,c,h=>by rw[kh,if_pos (h b)];exact Pv n (b+1) h
theorem Fr.rw0{c:CV}(h:Fr c):Rw 0 c:=by
 refine⟨h.bears,h.pl,h.used 0,h.bad 0,?_,?_,fun k k0 k1 hv=> ?_⟩
 ·
  have:=h.Au.1;change _+264000000*100<_ at this;omega
 ·
  show gn c 1+1≤1;rw[h.g1];decide
 ·
  have:=h.none k0 k1 hv;omega
theorem Fr.rw1{c:CV}{pg:List UInt8}{at_:List Int}(h:Fr c)(su:bw pg=(⟨1,at_⟩,0)):Rw 1 (bj c 0 pg):=by
 obtain⟨k1,k2,k3,k4⟩:=eo.1 h.bears
 have di:=gm c 0 pg
 have hP:=di.ae
 have kF:fx (bj c 0 pg)=true:=eo.2 ⟨iI k1 0 pg,by rw[di.len];exact k2,by rw[hP];exact k3,by rw[di.size];exact k4⟩
 have oM:aj (bj c 0 pg) 1=aj c 1:=Ic (by decide)
 have hold: ∀k,0≤k→k<2*c.ae→(bw (bD (bj c 0 pg) k)).2=0→(bw (bD (bj c 0 pg) k)).1.gen≤1∧((bw (bD (bj c 0 pg) k)).1.gen=1→k≤c.ae):=fun k k0 sO hv=>by
  by_cases e:k/c.ae=0
  ·
   rcases HF h.pl k0 (by omega) e hv with⟨g,_⟩|⟨g,g2⟩
   ·
    rw[g]at hv⊢
    have:=h.none k0 sO hv
    omega
   ·
    rw[g,su]
    refine⟨Nat.le_refl _,fun _=> ?_⟩
    have h3:=Int.mul_ediv_add_emod k c.ae
    have h4:=Int.emod_lt_of_pos k (show 0<c.ae by omega)
    rw[e,Int.mul_zero]at h3
    omega
  ·
   have Pu:=Int.ediv_nonneg k0 (show 0≤c.ae by omega)
   have Ie:bD (bj c 0 pg) k=bD c k:=by
    rw[bD,bD,hP,Ic (by show(k/c.ae).toNat≠0;omega)]
   rw[Ie]at hv⊢
   have:=h.none k0 sO hv
   omega
 refine⟨kF,h.pl.kd (pL (L:=[])),by rw[oM];exact h.used 1,by rw[oM];exact h.bad 1,?_,?_,fun k k0 sO hv=> ?_⟩
 ·
  have:=h.Au.1;have hc:=(sN c 0 pg).ops;change _+264000000*100<_ at this;omega
 ·
  show gn (bj c 0 pg) 0+0≤1
  rw[Nat.add_zero,gn]
  refine Dm _ 0 (Nat.zero_le _) fun p hp=> ?_
  obtain⟨j,hj⟩:=List.getElem?_of_mem hp
  obtain⟨r0,r1⟩:=vT kF
  have iZ:=(List.getElem?_eq_some_iff.1 hj).1
  rw[hP]at r0
  have dO:(j:Int)<c.ae:=by omega
  have mn:bD (bj c 0 pg) (j:Int)=p:=by
   rw[bD,hP,Int.ediv_eq_zero_of_lt (by omega) dO,Int.emod_eq_of_lt (by omega) dO]
   simp[List.getD,hj]
  rw[iJ];split
  ·
   rename_i hv
   have:=hold j (by omega) (by omega) (by rw[mn];exact hv)
   rw[mn]at this;exact this.1
  ·
   exact Nat.zero_le _
 ·
  rw[hP]at sO⊢
  have:=hold k k0 sO hv
  rw[Int.one_mul];exact this
theorem Pw{c:CV}{b:Int}{p:List UInt8}(hk:aT c=true)(h0:0≤b)(h1:b<c.blocks.length)(hf:0<dV c b)(hl:(p.length:Int)=c.size)(ho:c.ops<cN):bm c b p=0∨bm c b p=7∨bm c b p=9:=by
 rcases vq c b (aj c b).used p with g|g|g|g
 ·
  exact .inl g
 ·
  have:=(Oq (fv.2 ⟨hk,h0,h1⟩) hf hl g).1;omega
 ·
  exact .inr (.inl g)
 ·
  exact .inr (.inr g)
theorem abw{c:CV}{ids:Int}(h:Fr c)(h1:1≤ids)(h2:ids≤iP c.size):
  ((gS c ids).2=0∧dw (gS c ids).1∧(gS c ids).1.at_=List.replicate ids.toNat 0∧Kd [] c (gS c ids).1.ag∧Cs 2 c (gS c ids).1.ag)∨(gS c ids).2=7∨(gS c ids).2=9:=by
 obtain⟨k1,k2,k3,k4⟩:=eo.1 h.bears
 have hd:=eH k1
 have bH: ∀k:Int,se c k=false:=fun k=>by
  rw[se,h.bad,h.used]
  by_cases hk:k<2
  ·
   have:gn c k=0:=by
    by_cases rv:k.toNat=1
    ·
     have e:aj c k=aj c 1:=by simp only[aj,rv];rfl
     rw[gn,e];exact h.g1
    ·
     have e:aj c k=aj c 0:=by simp only[aj,show k.toNat=0 by omega];rfl
     rw[gn,e];exact h.g0
   rw[this];simp
  ·
   simp[hk]
 have e0:gS c ids=(if(ji c ids).2≠0 then(⟨(ji c ids).1.v.ag,[],0,0⟩,(ji c ids).2)else((ji c ids).1.v,0)):=by
  rw[gS,if_neg (fun g=>g ⟨h.bears,h1,h2⟩),if_neg (by rw[h.off];simp)]
 have hw:=Pv c.blocks.length 0 bH
 have eb:ji c ids=nM 2 0 ⟨⟨c,[],0,0⟩,false⟩ ids.toNat:=by
  rw[ji,oE]
  show(if(kh c.blocks.length 0 c).2≠0 then _ else nM 2 0 ((⟨⟨c,[],0,0⟩,false⟩:WV).on (kh c.blocks.length 0 c).1) ids.toNat)=_
  rw[hw];rfl
 have hR:HQ c 0 (List.replicate ids.toNat 0):=⟨by decide,by rw[List.length_replicate];omega,fun x hx=>by rw[List.eq_of_mem_replicate hx];decide⟩
 obtain⟨p1,p2⟩:=hR.put h.bears
 change(cj ⟨1,List.replicate ids.toNat 0⟩ c.size).2=0 at p1
 change((cj ⟨1,List.replicate ids.toNat 0⟩ c.size).1.length:Int)=c.size at p2
 have hm:=NU p1
 have CU: ∀{b:Int} {d:CV},Rw b d→d.size=c.size→gx d b ids.toNat=cj ⟨1,List.replicate ids.toNat 0⟩ c.size:=fun hr hs=>by rw[gx,hr.first,hs]
 have oK: ∀{b:Int} {d:CV},Rw b d→d.ae=c.ae→0<dV d b:=fun hr hs=>by rw[dV,if_neg (by rw[hr.bad];simp),hr.used,hs];omega
 have r0:=h.rw0
 rw[nM]at eb
 change ji c ids=(if(gx c 0 ids.toNat).2≠0∨dV c 0=0 then _ else if bm c 0 (gx c 0 ids.toNat).1=0 then((⟨vn (bj c 0 (gx c 0 ids.toNat).1) 0 ids.toNat (fy c 0),false⟩:WV),0)else if bm c 0 (gx c 0 ids.toNat).1≠9 then((⟨⟨c,[],0,0⟩,false⟩:WV).on (bj c 0 (gx c 0 ids.toNat).1),bm c 0 (gx c 0 ids.toNat).1)else nM 1 1 ((⟨⟨c,[],0,0⟩,false⟩:WV).on (bj c 0 (gx c 0 ids.toNat).1)) ids.toNat)at eb
 have la:=oK r0 rfl
 rw[CU r0 rfl,if_neg (by rintro(q|q);exact q p1;omega),r0.first]at eb
 have su:=Hv hm
 have Ig:=pL (L:=[]) (c:=c) (b:=0) (p:=(cj ⟨1,List.replicate ids.toNat 0⟩ c.size).1)
 have Px:=sN c 0 (cj ⟨1,List.replicate ids.toNat 0⟩ c.size).1
 rcases Pw (b:=0) (p:=(cj ⟨1,List.replicate ids.toNat 0⟩ c.size).1) k1 (Int.le_refl _) (by omega) la p2 r0.ops with z|z|z
 ·
  rw[if_pos z]at eb
  rw[e0,eb,if_neg (fun q=>q rfl)]
  exact .inl ⟨rfl,r0.done (Int.le_refl _) (by decide) hm z,rfl,Ig,Px.mono (by decide)⟩
 ·
  rw[if_neg (by rw[z];decide),if_pos (by rw[z];decide)]at eb
  rw[e0,eb,if_pos (by rw[z];show(7:Int)≠0;decide)]
  exact .inr (.inl z)
 ·
  rw[if_neg (by rw[z];decide),if_neg (by rw[z];decide)]at eb
  have r1:=h.rw1 (pg:=(cj ⟨1,List.replicate ids.toNat 0⟩ c.size).1) su
  have di:=Ig.cx
  generalize bj c 0 (cj ⟨1,List.replicate ids.toNat 0⟩ c.size).1=c1 at*
  rw[nM]at eb
  change ji c ids=(if(gx c1 1 ids.toNat).2≠0∨dV c1 1=0 then _ else if bm c1 1 (gx c1 1 ids.toNat).1=0 then((⟨vn (bj c1 1 (gx c1 1 ids.toNat).1) 1 ids.toNat (fy c1 1),false⟩:WV),0)else if bm c1 1 (gx c1 1 ids.toNat).1≠9 then((⟨⟨c1,[],0,0⟩,false⟩:WV).on (bj c1 1 (gx c1 1 ids.toNat).1),bm c1 1 (gx c1 1 ids.toNat).1)else nM 0 2 ((⟨⟨c1,[],0,0⟩,false⟩:WV).on (bj c1 1 (gx c1 1 ids.toNat).1)) ids.toNat)at eb
  have tn:=oK r1 di.ae
  rw[CU r1 di.size,if_neg (by rintro(q|q);exact q p1;omega),r1.first]at eb
  have abx:=pL (L:=[]) (c:=c1) (b:=1) (p:=(cj ⟨1,List.replicate ids.toNat 0⟩ c.size).1)
  have aby:=sN c1 1 (cj ⟨1,List.replicate ids.toNat 0⟩ c.size).1
  rcases Pw (b:=1) (p:=(cj ⟨1,List.replicate ids.toNat 0⟩ c.size).1) (eo.1 r1.bears).1 (by decide) (by rw[di.len];omega) tn (by rw[di.size];exact p2) r1.ops with y|y|y
  ·
   rw[if_pos y]at eb
   rw[e0,eb,if_neg (fun q=>q rfl)]
   have Dp:=r1.done (ids:=ids.toNat) (by decide) (by decide) (by rw[di.size];exact hm) (by rw[di.size];exact y)
   rw[di.size]at Dp
   exact .inl ⟨rfl,Dp,rfl,Ig.trans abx,(Px.trans aby).mono (by decide)⟩
  ·
   rw[if_neg (by rw[y];decide),if_pos (by rw[y];decide)]at eb
   rw[e0,eb,if_pos (by rw[y];show(7:Int)≠0;decide)]
   exact .inr (.inl y)
  ·
   rw[if_neg (by rw[y];decide),if_neg (by rw[y];decide)]at eb
   rw[e0,eb]
   exact .inr (.inr rfl)
open Go.ay
def Py(c:CV):Bool:=fx c&& !c.off&&c.blocks.all (fun b=> !b.bad&&decide (b.used=0)&&decide (b.aS=0))&&decide (c.ops=0)&&decide (gn c 0=0)&&decide (gn c 1=0)&&decide (dG c≠0)
theorem abz: ∀n,n<8→ ∀p,p<7→Py (jY n p).1=true:=by decide+kernel
theorem abA{n p:Nat}{fs:List Ft}(hn:n<8)(hp:p<7)(hl:fs.length≤64)(bE: ∀f∈fs,f.mask=0∨f.mask=255):Fr (mP (jY n p).1 fs)∧dG (mP (jY n p).1 fs)=kD ((n:Int)+5) ((p:Int)+2) 64∧dG (mP (jY n p).1 fs)≠0:=by
 have h:=abz n hn p hp
 simp only[Py,Bool.and_eq_true,decide_eq_true_eq,List.all_eq_true,Bool.not_eq_true']at h
 obtain⟨⟨⟨⟨⟨⟨h1,h2⟩,h3⟩,h4⟩,h5⟩,h6⟩,h7⟩:=h
 obtain⟨b1,b2⟩:=eo.1 h1
 have hN:=HU n hn p hp
 simp only[Dy,Bool.and_eq_true,decide_eq_true_eq]at hN
 obtain⟨⟨⟨⟨⟨⟨_,_⟩,_⟩,_⟩,g5⟩,g6⟩,g7⟩:=hN
 have hc:dG (jY n p).1=kD ((n:Int)+5) ((p:Int)+2) 64:=abB n hn p hp
 rw[(Ia b1 hl).2]
 have ei: ∀b:Int,(aj (jY n p).1 b).bad=false∧(aj (jY n p).1 b).used=0∧(aj (jY n p).1 b).aS=0:=fun b=>by
  rcases Nat.lt_or_ge b.toNat (jY n p).1.blocks.length with hl|hl
  ·
   have hm:aj (jY n p).1 b∈(jY n p).1.blocks:=by
    simp only[aj,List.getD,List.getElem?_eq_getElem hl,Option.getD_some];exact List.getElem_mem hl
   exact⟨(h3 _ hm).1.1,(h3 _ hm).1.2,(h3 _ hm).2⟩
  ·
   simp only[aj,List.getD,List.getElem?_eq_none hl,Option.getD_none];exact⟨rfl,rfl,rfl⟩
 refine⟨⟨eo.2 ⟨Pt b1 hl,b2⟩,bE,rfl,fun b=>(ei b).2.1,fun b=>(ei b).1,h5,h6,?_,fun b=> ?_⟩,hc,h7⟩
 ·
  show(jY n p).1.ops+264000000*100<(1099511627776:Int);omega
 ·
  show(aj (jY n p).1 b).aS+264000000*100<(1099511627776:Int);rw[(ei b).2.2];decide
where
 abB: ∀n,n<8→ ∀p,p<7→dG (jY n p).1=kD ((n:Int)+5) ((p:Int)+2) 64:=by decide+kernel
structure Sb(k:Nat)(m:Int)(f:FV):Prop where
 fb:fJ f
 pl:fa f.an.ag
 Au:kI (qG*(k:Int)) f.an.ag
 gI:dG f.an.ag=m
theorem abC{c:CV}{k:Nat}(h:Fr c)(hm:dG c≠0)(hk:k≤50):(iU c).2=7∨(iU c).2=9∨((iU c).2=0∧Sb k (dG c) (iU c).1∧(iU c).1.table=[]):=by
 have xR:1≤dm c∧dm c≤iP c.size:=by
  refine⟨?_,by rw[dm,ru];omega⟩
  have sE:=hm
  rw[dG,kD,gI]at sE
  split at sE
  ·
   exact absurd rfl sE
  ·
   rename_i g
   have:dm c=ru c.blocks.length c.ae c.size:=rfl
   omega
 have he:iU c=(⟨(gS c (dm c)).1,[]⟩,(gS c (dm c)).2):=by rw[iU,if_neg hm]
 rw[he]
 rcases abw h xR.1 xR.2 with⟨f1,f2,f4,f5,f6⟩|f1|f1
 ·
  right;right
  have hc:=Ds f5.cx
  have hb:cl (gS c (dm c)).1=List.replicate (dm c).toNat []:=by
   rw[cl,f4,aaW]
  obtain⟨t1,t2⟩:=aaX (dm c).toNat
  refine⟨f1,⟨⟨f2,by show dG _≠0;rw[hc.1];exact hm,by show(_:Int)=dm _;rw[hc.2,f4,List.length_replicate];omega,by show iT _=0;rw[hb];exact t1,by show[]=ij _;rw[hb];exact t2.symm⟩,h.pl.kd f5,?_,hc.1⟩,rfl⟩
  exact kI.cs (m:=2) (h.Au.mono (by show(264000000:Int)*(k:Int)+2≤264000000*100;omega)) f6
 ·
  exact .inl f1
 ·
  exact .inr (.inl f1)
theorem Sb.step{k:Nat}{m:Int}{f:FV}(h:Sb (k+1) m f)(l:List Ch){fs:List Ft}(hl:fs.length≤64)(bE: ∀f∈fs,f.mask=0∨f.mask=255):
  (nT f.table l m≠0→(cg f l).2=nT f.table l m)∧((cg f l).2=0→eu f.table l=0∧(cg f l).1.table=cQ f.table l)∧((cg f l).2≠0→(cg f l).1.table=f.table)∧aT (cg f l).1.an.ag=true∧(cg f l).1.table.length≤256∧
   ∃g:FV,cX (mP (cg f l).1.an.ag fs)=(g,0)∧Sb k m g∧(g.table=(cg f l).1.table∨(((cg f l).2=7∨(cg f l).2=9)∧nT f.table l m=0∧g.table=cQ f.table l)):=by
 have hf:=h.Au.mono (m:=qG*(k:Int)+qG) (by show(264000000:Int)*(k:Int)+264000000≤264000000*((k+1:Nat):Int);omega)
 obtain⟨a1,a2,a3,a4,a5,a6,a7,a8⟩:=abr (k:=qG*(k:Int)) (l:=l) h.fb h.pl (by show(0:Int)≤264000000*(k:Int);omega) hf
 rw[h.gI]at a8
 have hk:=(eo.1 h.fb.rt.bears).1
 have ld:=a1.ok hk
 have hlen:(cg f l).1.table.length≤256:=by
  by_cases h0:(cg f l).2=0
  ·
   rw[(a3 h0).2];exact wO (OD h.fb.right l)
  ·
   rw[a4 h0];exact wO h.fb.right
 have hg: ∃g:FV,fJ g∧g.an.ag=(cg f l).1.an.ag∧(g.table=(cg f l).1.table∨(((cg f l).2=7∨(cg f l).2=9)∧nT f.table l m=0∧g.table=cQ f.table l)):=by
  by_cases uo:(cg f l).2=7∨(cg f l).2=9
  ·
   obtain⟨g,g1,g2,g3⟩:=a7
   have h0:(cg f l).2≠0:=by omega
   have hho:nT f.table l m=0:=by
    apply Classical.byContradiction
    intro hn
    have e:=(a8 hn).1
    have h4:=OJ f.table l
    rw[nT]at e
    split at e<;>omega
   refine⟨g,g1,g2,?_⟩
   rw[a4 h0]
   exact g3.imp id fun q=>⟨uo,hho,q.2.2⟩
  ·
   exact⟨(cg f l).1,a5 (fun g=>uo (.inl g)) (fun g=>uo (.inr g)),rfl, .inl rfl⟩
 obtain⟨g,g1,g2,g3⟩:=hg
 refine⟨fun hn=>(a8 hn).1,a3,a4,ld,hlen,⟨{g.an with ag:=mP (cg f l).1.an.ag fs},g.table⟩,?_,?_,g3⟩
 ·
  rw[(Ia ld hl).2,←g2]
  exact(g1.fB (b:=false) hl).aaE rfl
 ·
  have DI:=Ds a1.cx
  rw[(Ia ld hl).2]
  have rI:=g1.fB (b:=false) hl
  rw[g2]at rI
  refine⟨rI,bE,a2,?_⟩
  show dG (cg f l).1.an.ag=m
  rw[DI.1,h.gI]
end Go.Kb
namespace Go.Proofs.YtaipiecplldinaaGreat
open Go.ay Go.Kb
open Go.RowKit
structure pQ where
 batch:Sl Ch
 fB:Sl Ft
def yg(x:pQ):Array Value:= #[x.batch.sv.val,x.fB.sv.val]
instance:bp yg 2:=⟨fun _=>rfl,fun x=>by
 simp only[yg,List.all_toArray,List.all_cons,List.all_nil,Sv.one,oq,ot,Bool.and_self]⟩
instance (x:pQ):cm (yg x) 0 (x.batch.sv.val):=⟨rfl⟩
instance (x:pQ):cm (yg x) 1 (x.fB.sv.val):=⟨rfl⟩
instance:Deep pQ where
 c:=2
 cells:=yg
 size:=bp.size
 one:=bp.one
 aZ h x:=Deep.aZ h x.batch∧Deep.aZ h x.fB
 bT x:= .two (Deep.bT x.batch) (Deep.bT x.fB)
 fM h x hs:=⟨Deep.fM h x.batch hs.1,Deep.fM h x.fB hs.2.1⟩
 mono w w' x hg hb:=⟨Deep.mono w w' x.batch hg.1 hb,Deep.mono w w' x.fB hg.2 hb⟩
instance {w0:World}{L:List ak}{x:pQ}[q:aW w0 L x]:aW w0 L x.batch:=⟨fun w hw=>(q.h w hw).1⟩
instance {w0:World}{L:List ak}{x:pQ}[q:aW w0 L x]:aW w0 L x.fB:=⟨fun w hw=>(q.h w hw).2⟩
instance:fN pQ yg 2:=⟨rfl,fun _=>rfl⟩
structure qH where
 f:cC
 h:Sl Rt
 t:Sl Rt
def Ih(x:qH):Array Value:= #[.int .i64 x.f.an.ag.ae, .int .i64 x.f.an.ag.size,x.f.an.ag.blocks.sv.val, .int .i64 x.f.an.ag.ops, .bool x.f.an.ag.off,x.f.an.ag.aX.sv.val,x.f.an.at_.sv.val, .int .u64 x.f.an.gen.toNat, .int .i64 x.f.an.last,x.f.table.sv.val,x.h.sv.val,x.t.sv.val]
instance:bp Ih 12:=⟨fun _=>rfl,fun x=>by
 simp only[Ih,List.all_toArray,List.all_cons,List.all_nil,Sv.one,oq,ot,Bool.and_self]⟩
instance:Deep qH where
 c:=12
 cells:=Ih
 size:=bp.size
 one:=bp.one
 aZ h x:=Deep.aZ h x.f∧Deep.aZ h x.h∧Deep.aZ h x.t
 bT x:= .two (Deep.bT x.f) (.two (Deep.bT x.h) (Deep.bT x.t))
 fM h x hs:=⟨Deep.fM h x.f hs.1,⟨Deep.fM h x.h hs.2.1.1,Deep.fM h x.t hs.2.1.2.1⟩⟩
 mono w w' x hg hb:=⟨Deep.mono w w' x.f hg.1 hb,⟨Deep.mono w w' x.h hg.2.1 hb,Deep.mono w w' x.t hg.2.2 hb⟩⟩
instance:dz qH where
 reach x k:=dz.reach x.f k∨dz.reach x.h k∨dz.reach x.t k
 congr h h' x e hg:=⟨dz.congr h h' x.f (fun k hk=>e k (.inl hk)) hg.1,⟨dz.congr h h' x.h (fun k hk=>e k (.inr (.inl hk))) hg.2.1,dz.congr h h' x.t (fun k hk=>e k (.inr (.inr hk))) hg.2.2⟩⟩
instance {w0:World}{L:List ak}{x:qH}[q:aW w0 L x]:aW w0 L x.f:=⟨fun w hw=>(q.h w hw).1⟩
structure HT where
 h:Sl Rt
 t:Sl Rt
def Ii(x:HT):Array Value:= #[x.h.sv.val,x.t.sv.val]
instance:bp Ii 2:=⟨fun _=>rfl,fun x=>by
 simp only[Ii,List.all_toArray,List.all_cons,List.all_nil,Sv.one,oq,ot,Bool.and_self]⟩
instance:Deep HT where
 c:=2
 cells:=Ii
 size:=bp.size
 one:=bp.one
 aZ h x:=Deep.aZ h x.h∧Deep.aZ h x.t
 bT x:= .two (Deep.bT x.h) (Deep.bT x.t)
 fM h x hs:=⟨Deep.fM h x.h hs.1,Deep.fM h x.t hs.2.1⟩
 mono w w' x hg hb:=⟨Deep.mono w w' x.h hg.1 hb,Deep.mono w w' x.t hg.2 hb⟩
instance:dz HT where
 reach x k:=dz.reach x.h k∨dz.reach x.t k
 congr h h' x e hg:=⟨dz.congr h h' x.h (fun k hk=>e k (.inl hk)) hg.1,dz.congr h h' x.t (fun k hk=>e k (.inr hk)) hg.2⟩
instance {w0:World}{L:List ak}{x:HT}[q:aW w0 L x]:aW w0 L x.h:=⟨fun w hw=>(q.h w hw).1⟩
instance {w0:World}{L:List ak}{x:HT}[q:aW w0 L x]:aW w0 L x.t:=⟨fun w hw=>(q.h w hw).2⟩
theorem abD{w0 w:World}{L:List ak}{s:FH}{a:Sl Rt}(h:Mem w0 (fz a::fz s::L) w):Mem w0 (fz (⟨s.f,s.h,a⟩:qH)::L) w:=by
 have hs:=h.sat (fz s) (by simp)
 refine Mem.freeze (es:=[fz a,fz s]) (⟨s.f,s.h,a⟩:qH) ⟨hs.1,hs.2,h.sat (fz a) (by simp)⟩ (fun k hk=> ?_) h
 rcases hk with hk|hk|hk
 ·
  exact⟨fz s,by simp, .inl hk⟩
 ·
  exact⟨fz s,by simp, .inr hk⟩
 ·
  exact⟨fz a,by simp,hk⟩
theorem abE{w0 w:World}{L:List ak}{s:FH}(h:Mem w0 (fz s::L) w):Mem w0 (fz (⟨s.f,s.h,s.h⟩:qH)::L) w:=by
 have hs:=h.sat (fz s) (by simp)
 refine Mem.freeze (es:=[fz s]) (⟨s.f,s.h,s.h⟩:qH) ⟨hs.1,hs.2,hs.2⟩ (fun k hk=> ?_) h
 rcases hk with hk|hk|hk
 ·
  exact⟨fz s,by simp, .inl hk⟩
 ·
  exact⟨fz s,by simp, .inr hk⟩
 ·
  exact⟨fz s,by simp, .inr hk⟩
theorem abF{w0 w:World}{L:List ak}{z:qH}(h:Mem w0 (fz z::L) w):Mem w0 (fz (⟨z.t,z.t⟩:HT)::L) w:=by
 have hs:=h.sat (fz z) (by simp)
 refine Mem.freeze (es:=[fz z]) (⟨z.t,z.t⟩:HT) ⟨hs.2.2,hs.2.2⟩ (fun k hk=>⟨fz z,by simp,?_⟩) h
 rcases hk with hk|hk
 ·
  exact .inr (.inr hk)
 ·
  exact .inr (.inr hk)
theorem abG{w0 w:World}{L:List ak}{z:qH}(h:Mem w0 (fz z::L) w):Mem w0 (fz (⟨z.h,z.t⟩:HT)::L) w:=by
 have hs:=h.sat (fz z) (by simp)
 refine Mem.freeze (es:=[fz z]) (⟨z.h,z.t⟩:HT) ⟨hs.2.1,hs.2.2⟩ (fun k hk=>⟨fz z,by simp,?_⟩) h
 rcases hk with hk|hk
 ·
  exact .inr (.inl hk)
 ·
  exact .inr (.inr hk)
open Go.ay Go.Kb
open Go.RowKit
theorem abH(w:World)(b:UInt8)(p:UInt8)(fs:Sv)(eJ:List Ft)(l:Sl pQ)(k:Key)(bits:Int)(qx:bW dj 4 (hp w) fs eJ)(hl:Deep.aZ (hp w) l):Calls Tryz.prog 5 #[.int .u8 (b.toNat:Nat), .int .u8 (p.toNat:Nat),fs.val,l.sv.val, .agg (cn k), .int .i64 bits] w fun e w'=>e= .returned (.bool true)∧Mem w [] w':=by
 have Mv:Gv w fs dj 4 eJ:=⟨qx⟩
 have oJ:cM w l:=⟨hl⟩
 have dF:=hl.1.bd
 have hbf:=qx.bd
 obtain⟨n1,n2,n3,n4,n5,n6⟩:=aaU (n:=(b.toNat%8)) (p:=(p.toNat%7)) (by omega) (by omega)
 refine bh (args:=[_,_,_,_,_,_]) Tryz.func5 rfl Tryz.ntmps5 rfl ?_
 change Cw _ _ _ _ _ [(0, .int .u8 (b.toNat:Nat)),(1, .int .u8 (p.toNat:Nat)),(2,fs.val),(3,l.sv.val),(4, .agg (cn k)),(5, .int .i64 bits)] []
 refine Gc ?_
 refine cA rfl fun jK=> ?_
 refine Gs ?_
 refine Gc ?_
 iterate 2 refine Gs ?_
 refine Gc ?_
 refine av rfl (fun h0=> ?_) (fun h0=> ?_)
 ·
  exfalso;simp at h0
 ·
  replace h0:=bz h0
  refine Gc ?_
  iterate 4 refine Gs ?_
  iterate 3 refine Gg ?_
  iterate 2 refine Gs ?_
  refine Gg ?_
  refine bS rfl rfl rfl (fun hg=>cJ (dI (aG hg rfl) gN) trivial) ?_
  refine bS rfl rfl rfl (fun hg=>(Ry.yl (iD (aG hg rfl)))) ?_
  refine Gs ?_
  refine Gc ?_
  refine av rfl (fun h1=> ?_) (fun h1=> ?_)
  ·
   replace h1:=bz h1
   refine Gc ?_
   refine Gs ?_
   refine Gc ?_
   refine au (.inl rfl) (aQ rfl (aq rfl)) (fun w1 hw=> ?_)
   exact⟨congrArg (fun b=>Ending.returned (Value.bool b)) (rfl),ai.mem hw⟩
  ·
   replace h1:=bz h1
   have bE: ∀f∈eJ,f.mask=0∨f.mask=255:=DJ.1 h1.2
   have hlen:l.xs.length≤20∧eJ.length≤20:=⟨by omega,by omega⟩
   refine Gc ?_
   refine Gs ?_
   refine Gc ?_
   refine ct (X:=Nat) (fun zz=>[(13, .int .i64 (zz:Nat)),(0, .int .u8 (b.toNat:Nat)),(1, .int .u8 (p.toNat:Nat)),(2,fs.val),(3,l.sv.val),(5, .int .i64 bits),(10, .pointer (some ⟨jK,0,none⟩))]) (fun zz=>[ar jK (cn k) 56]) (fun zz=>zz≤l.xs.length∧ ∀y∈l.xs.take zz,y.batch.xs.length≤12∧y.fB.xs.length≤20∧rJ y.fB.xs=true) (fun zz=>l.xs.length -zz) 0 ⟨Nat.zero_le _,fun f hf=>by rw[List.take_zero]at hf;cases hf⟩ (Sub.cons rfl (Sub.cons rfl (Sub.cons rfl (Sub.cons rfl (Sub.cons rfl (Sub.cons rfl (Sub.cons rfl (Sub.nil _)))))))) (fun w hw=>ai.mem hw) ?_
   rintro i ⟨bl,aH⟩
   refine Gc ?_
   iterate 4 refine Gs ?_
   refine Gc ?_
   refine av rfl (fun h2=> ?_) (fun h2=> ?_)
   ·
    replace h2:=bz h2
    obtain⟨y,hy⟩:=get_some (xs:=l.xs) (i:=i) (by omega)
    have zL:Mb y l:=⟨List.mem_of_getElem? hy⟩
    refine Gc ?_
    iterate 2 refine Gs ?_
    refine ah (bo rfl rfl i rfl (by omega)) ?_
    refine ah (aI rfl rfl) ?_
    refine ah (bO (j:=0) rfl i hy rfl (by decide)) ?_
    have ajA:Mb y _:=⟨List.mem_of_getElem? hy⟩
    iterate 3 refine Gs ?_
    iterate 2 refine Gg ?_
    refine bS rfl rfl rfl (fun hg=>(Ry.yl (bo (aG hg rfl) (aG hg rfl) i rfl (by simp only[Z0,Z1,Z2,Z3,Z4,Z5,Z6,Z7,Z8,Z9]at hg;omega)))) ?_
    refine bS rfl rfl rfl (fun hg=>(Ry.yl (aI (aG hg rfl) rfl))) ?_
    refine bS rfl rfl rfl (fun hg=>(Ry.yl (bO (j:=1) (aG hg rfl) i hy rfl (by decide)))) ?_
    iterate 2 refine Gg ?_
    iterate 2 refine Gs ?_
    iterate 2 refine Gg ?_
    refine bS rfl rfl rfl (fun hg=>(Ry.yl (bo (aG hg rfl) (aG hg rfl) i rfl (by simp only[Z0,Z1,Z2,Z3,Z4,Z5,Z6,Z7,Z8,Z9]at hg;omega)))) ?_
    refine bS rfl rfl rfl (fun hg=>(Ry.yl (aI (aG hg rfl) rfl))) ?_
    refine bS rfl rfl rfl (fun hg=>(Ry.yl (bO (j:=1) (aG hg rfl) i hy rfl (by decide)))) ?_
    refine bS rfl rfl rfl (fun hg=>cJ (dI (aG hg rfl) gN) trivial) ?_
    refine bS rfl rfl rfl (fun hg=>(Ry.yl (iD (aG hg rfl)))) ?_
    refine Gs ?_
    refine Gc ?_
    refine av rfl (fun h3=> ?_) (fun h3=> ?_)
    ·
     replace h3:=bz h3
     refine Gc ?_
     refine Gs ?_
     refine Gc ?_
     refine au (.inl rfl) (aQ rfl (aq rfl)) (fun w1 hw=> ?_)
     exact⟨congrArg (fun b=>Ending.returned (Value.bool b)) (rfl),ai.mem hw⟩
    ·
     replace h3:=bz h3
     have h3y:y.batch.xs.length≤12∧y.fB.xs.length≤20∧rJ y.fB.xs=true:=⟨by omega,by omega,h3.2⟩
     refine Gc ?_
     iterate 3 refine Gs ?_
     refine Gi ?_
     exact bI (x:=(i)) (i+1) ⟨by first|omega|(simp only[];omega),fun f hf=>by
      rw[List.take_add_one,hy]at hf
      rcases List.mem_append.1 hf with g|g
      ·
       exact aH f g
      ·
       obtain rfl:f=y:=by simpa using g
       exact h3y⟩ (by first|omega|(simp only[];omega)) (Sub.cons rfl (Sub.cons rfl (Sub.cons rfl (Sub.cons rfl (Sub.cons rfl (Sub.cons rfl (Sub.cons rfl (Sub.nil _)))))))) (fun w hw=>ai.mem hw)
   ·
    replace h2:=bz h2
    obtain rfl:i=l.xs.length:=by omega
    have hQ: ∀y∈l.xs,y.batch.xs.length≤12∧y.fB.xs.length≤20∧rJ y.fB.xs=true:=by rw[List.take_length]at aH;exact aH
    refine Gc ?_
    refine Gs ?_
    refine ah (yI (p:=b.toNat) (q:=8) rfl rfl rfl rfl (by omega)) ?_
    refine ah (pT rfl (by simp only[nb];omega)) ?_
    iterate 2 refine Gs ?_
    refine ah (yI (p:=p.toNat) (q:=7) rfl rfl rfl rfl (by omega)) ?_
    refine ah (pT rfl (by simp only[nb];omega)) ?_
    iterate 3 refine Gs ?_
    refine Gc ?_
    iterate 2 refine Gs ?_
    refine bu rfl trivial fun DK abI=> ?_
    have Pz:cv DK=(jY (b.toNat%8) (p.toNat%7)).1:=abI
    have DL:(nD ((((b.toNat%8):Nat):Int)+5) ((((p.toNat%7):Nat):Int)+2) 64).2=0:=n1
    have abJ:dK DK:=nH (by rw[Pz];exact n2)
    refine Gs ?_
    refine ah (aU (v:= .agg (aF DK)) rfl rfl) ?_
    refine ah (aU (v:= .int .i64 ((nD ((((b.toNat%8:Nat)):Int)+5) ((((p.toNat%7:Nat)):Int)+2) 64).2)) rfl rfl) ?_
    refine bM fun lR=> ?_
    iterate 2 refine Gs ?_
    refine Gc ?_
    iterate 2 refine Gs ?_
    refine bu rfl abJ fun kr abK=> ?_
    have DM:cv kr=(mP (jY (b.toNat%8) (p.toNat%7)).1 eJ):=by rw[abK,Pz]
    obtain⟨f1,f2,f3⟩:=abA (n:=(b.toNat%8)) (p:=(p.toNat%7)) (fs:=eJ) (by omega) (by omega) (by omega) bE
    have abL:dK kr:=nH (by rw[DM];exact(eo.1 f1.bears).1)
    refine Gs ?_
    refine ah (aU (v:= .agg (aF kr)) rfl rfl) ?_
    refine ah (aU (v:= .int .i64 (nF (cv DK) eJ)) rfl rfl) ?_
    refine Gs ?_
    refine Gc ?_
    refine Gs ?_
    refine bu rfl abL fun ua GW=> ?_
    have ajB:bG ua=(iU (mP (jY (b.toNat%8) (p.toNat%7)).1 eJ)).1:=by rw[GW,DM]
    have Ij:=abC (k:=l.xs.length) f1 f3 (by omega)
    rw[←DM]at Ij
    refine Gs ?_
    refine ah (aU (v:= .agg (bQ ua)) rfl rfl) ?_
    refine ah (aU (v:= .int .i64 ((iU (cv kr)).2)) rfl rfl) ?_
    refine bM fun nU=> ?_
    iterate 2 refine Gs ?_
    refine Gc ?_
    iterate 3 refine Gs ?_
    iterate 2 refine Gg ?_
    refine Gs ?_
    refine Gc ?_
    refine av rfl (fun h4=> ?_) (fun h4=> ?_)
    ·
     replace h4:=bz h4
     have hfe:(iU (cv kr)).2=7∨(iU (cv kr)).2=9:=by
      rcases Ij with g|g|g
      ·
       exact .inl g
      ·
       exact .inr g
      ·
       refine False.elim ?_
       rcases h4 with q|q
       ·
        exact q DL
       ·
        exact q g.1
     refine Gc ?_
     iterate 3 refine Gs ?_
     iterate 2 refine Gg ?_
     refine gv rfl rfl rfl (fun hg=>(Ry.yl (aE (aG hg rfl)))) ?_
     refine pV rfl rfl rfl (fun hg=>(Ry.yl (aE rfl))) ?_
     refine pV rfl rfl rfl (fun hg=>(Ry.yl (cz (aG hg rfl) rfl rfl))) ?_
     refine gv rfl rfl rfl (fun hg=>(Ry.yl (lU (aG hg rfl) rfl (sY hg rfl)))) ?_
     iterate 2 refine Gs ?_
     refine Gc ?_
     refine au (.inl rfl) (aQ rfl (aq rfl)) (fun w1 hw=> ?_)
     exact⟨congrArg (fun b=>Ending.returned (Value.bool b)) ((by rw[Bool.and_eq_true,Bool.or_eq_true,decide_eq_true_eq,decide_eq_true_eq,decide_eq_true_eq];exact⟨DL,hfe⟩)),ai.mem hw⟩
    ·
     replace h4:=bz h4
     have jj:Sb l.xs.length (dG (cv kr)) (iU (cv kr)).1∧(iU (cv kr)).1.table=[]:=by
      rcases Ij with g|g|g
      ·
       refine False.elim ?_;simp[DL,g]at h4
      ·
       refine False.elim ?_;simp[DL,g]at h4
      ·
       exact g.2
     rw[←GW]at jj
     obtain⟨PA,t103⟩:=jj
     rw[show dG (cv kr)=kD (((b.toNat%8)+5:Nat):Int) (((p.toNat%7)+2:Nat):Int) 64 by rw[DM];exact f2]at PA
     refine Gc ?_
     refine Gs ?_
     refine Gc ?_
     refine Gs ?_
     refine Gc ?_
     refine ct (X:=Nat×FH) (fun zz=>[(21, .int .i64 (zz.1:Nat)),(18, .pointer (some ⟨nU,0,none⟩)),(20,zz.2.h.sv.val),(3,l.sv.val),(5, .int .i64 bits),(10, .pointer (some ⟨jK,0,none⟩)),(14, .int .i64 (((b.toNat%8)+5):Nat)),(15, .int .i64 (((p.toNat%7)+2):Nat))]) (fun zz=>[ar nU (bQ zz.2.f) 54,fz zz.2,ar lR (aF kr) 25,ar jK (cn k) 56]) (fun zz=>zz.1≤l.xs.length∧Sb (l.xs.length -zz.1) (kD (((b.toNat%8)+5:Nat):Int) (((p.toNat%7)+2:Nat):Int) 64) (bG zz.2.f)∧zz.2.h.xs=zz.2.f.table.xs) (fun zz=>l.xs.length -zz.1) (0,⟨ua,⟨Sv.none,[]⟩⟩) ⟨Nat.zero_le _,PA,t103.symm⟩ (Sub.cons rfl (Sub.cons rfl (Sub.cons rfl (Sub.cons rfl (Sub.cons rfl (Sub.cons rfl (Sub.cons rfl (Sub.cons rfl (Sub.nil _))))))))) (fun w hw=>ai.mem (aaJ (f:=ua) (ai.mem hw:Mem _ [fz ua,ar nU (bQ ua) 54,ar lR (aF kr) 25,ar jK (cn k) 56] _))) ?_
     rintro⟨i,s⟩ ⟨bl,aH,bB⟩
     dsimp only
     simp only at bl aH bB
     have kE:=aH.fb.small
     have nz:s.h.xs.length≤1000000:=by rw[bB];exact kE.2.2
     refine Gc ?_
     iterate 4 refine Gs ?_
     refine Gc ?_
     refine av rfl (fun h5=> ?_) (fun h5=> ?_)
     ·
      replace h5:=bz h5
      obtain⟨y,hy⟩:=get_some (xs:=l.xs) (i:=i) (by omega)
      have zL:Mb y l:=⟨List.mem_of_getElem? hy⟩
      have zB:=hQ y (List.mem_of_getElem? hy)
      refine Gc ?_
      iterate 3 refine Gs ?_
      refine ah (bo rfl rfl i rfl (by omega)) ?_
      refine ah (aI rfl rfl) ?_
      refine ah (bO (j:=0) rfl i hy rfl (by decide)) ?_
      have ajC:Mb y _:=⟨List.mem_of_getElem? hy⟩
      refine bu rfl nz fun DN ajD=> ?_
      refine Gs ?_
      refine ah (aU (v:=DN.val) rfl rfl) ?_
      refine ah (aU (v:= .int .i64 (eu s.h.xs y.batch.xs)) rfl rfl) ?_
      iterate 2 refine Gs ?_
      iterate 2 refine Gi ?_
      refine wo (X:=qH×Int) (fun zz=>[(18, .pointer (some ⟨nU,0,none⟩)),(20,zz.1.h.sv.val),(22,zz.1.t.sv.val),(23, .int .i64 zz.2),(3,l.sv.val),(5, .int .i64 bits),(10, .pointer (some ⟨jK,0,none⟩)),(14, .int .i64 (((b.toNat%8)+5):Nat)),(15, .int .i64 (((p.toNat%7)+2):Nat)),(21, .int .i64 (i:Nat))]) (fun zz=>[fz zz.1,ar nU (bQ zz.1.f) 54,ar lR (aF kr) 25,ar jK (cn k) 56]) (fun zz=>Sb (l.xs.length -i) (kD (((b.toNat%8)+5:Nat):Int) (((p.toNat%7)+2:Nat):Int) 64) (bG zz.1.f)∧zz.1.h.xs=zz.1.f.table.xs∧zz.2=nT zz.1.f.table.xs y.batch.xs (kD (((b.toNat%8)+5:Nat):Int) (((p.toNat%7)+2:Nat):Int) 64)∧(zz.2=0→zz.1.t.xs=cQ zz.1.f.table.xs y.batch.xs)) ?_ ?_
      ·
       refine Gc ?_
       iterate 3 refine Gs ?_
       iterate 4 refine Gg ?_
       refine gv rfl rfl rfl (fun hg=>cJ (dI (aG hg rfl) (dI (aG hg rfl) (dI rfl gN))) trivial) ?_
       refine Gg ?_
       refine Gs ?_
       refine Gc ?_
       refine av rfl (fun h6=> ?_) (fun h6=> ?_)
       ·
        replace h6:=bz h6
        have Ik:nT s.f.table.xs y.batch.xs (kD (((b.toNat%8)+5:Nat):Int) (((p.toNat%7)+2:Nat):Int) 64)=5:=if_pos ⟨by rw[←bB];exact h6.1,by rw[←bB];omega⟩
        refine Gi ?_
        iterate 3 refine Gs ?_
        refine Gi ?_
        exact oY (⟨s.f,s.h,s.h⟩,5) ⟨aH,bB,Ik.symm,fun g=>absurd (show(5:Int)=0 from g) (by decide)⟩ (Sub.cons rfl (Sub.cons rfl (Sub.cons rfl (Sub.cons rfl (Sub.cons rfl (Sub.cons rfl (Sub.cons rfl (Sub.cons rfl (Sub.cons rfl (Sub.cons rfl (Sub.nil _))))))))))) (fun w hw=>ai.mem (abE (ai.mem hw:Mem _ [fz s,ar nU (bQ s.f) 54,ar lR (aF kr) 25,ar jK (cn k) 56] _)))
       ·
        replace h6:=bz h6
        have Ik:nT s.f.table.xs y.batch.xs (kD (((b.toNat%8)+5:Nat):Int) (((p.toNat%7)+2:Nat):Int) 64)=eu s.h.xs y.batch.xs:=by
         rw[nT,if_neg,bB]
         rintro⟨g1,g2⟩
         rw[←bB]at g1 g2
         rcases h6 with h|h
         ·
          exact h g1
         ·
          omega
        refine Gi ?_
        exact oY (⟨s.f,s.h,(⟨DN,cQ s.h.xs y.batch.xs⟩:Sl Rt)⟩,eu s.h.xs y.batch.xs) ⟨aH,bB,Ik.symm,fun _=>by show cQ s.h.xs y.batch.xs=_;rw[bB]⟩ (Sub.cons rfl (Sub.cons rfl (Sub.cons rfl (Sub.cons rfl (Sub.cons rfl (Sub.cons rfl (Sub.cons rfl (Sub.cons rfl (Sub.cons rfl (Sub.cons rfl (Sub.nil _))))))))))) (fun w hw=>ai.mem (abD (vw (a:=(⟨DN,cQ s.h.xs y.batch.xs⟩:Sl Rt)) (ai.mem hw:Mem _ [own ax 19 DN (cQ s.h.xs y.batch.xs),fz s,ar nU (bQ s.f) 54,ar lR (aF kr) 25,ar jK (cn k) 56] _))))
      ·
       rintro⟨z,e⟩ ⟨vV,Il,za,DO⟩
       dsimp only
       simp only at vV Il za DO
       have fc:=vV.fb.small
       have sr:z.h.xs.length≤1000000:=by rw[Il];exact fc.2.2
       refine Gi ?_
       refine pf [6,10,11,2010,4006] [[],[],[],[],[],[],[],[6],[6],[6],[],[6,10],[6,10,11]] [0,1,2,3,4,5,6,7,8,9,10,11,12] [fz z,ar nU (bQ z.f) 54,ar lR (aF kr) 25,ar jK (cn k) 56] [(10,j9 Tryz.prog 54)] (by kernel_rfl) (fun _ hw=>ai.mem hw) (by kernel_rfl) (by kernel_rfl) ?_
       refine al rfl (gu rfl) ?_
       refine al rfl (aE rfl) ?_
       refine al rfl (aE rfl) ?_
       refine al rfl (bo rfl rfl i rfl (by omega)) ?_
       refine al rfl (aI rfl rfl) ?_
       refine al rfl (bO (j:=0) rfl i hy rfl (by decide)) ?_
       have ajE:Mb y _:=⟨List.mem_of_getElem? hy⟩
       refine qY rfl rfl fc (fun e x w hw=>ai.mem hw) (Cert.one (i:=10) rfl rfl rfl jy (Cert.none rfl)) fun lS abM=>⟨fun _ hw=>ai.mem hw,?_⟩
       obtain⟨y1,y2,y3⟩:=zB
       have bH:=Sb.step (k:=l.xs.length -(i+1)) (m:=kD (((b.toNat%8)+5:Nat):Int) (((p.toNat%7)+2:Nat):Int) 64) (f:=bG z.f) (by rw[show l.xs.length -(i+1)+1=l.xs.length -i by omega];exact vV) y.batch.xs (fs:=y.fB.xs) (by omega) (DJ.1 y3)
       rw[←abM]at bH
       obtain⟨q0,q1,q2,q3,q4,g,g1,g2,g3⟩:=bH
       rw[show nT (bG z.f).table y.batch.xs (kD (((b.toNat%8)+5:Nat):Int) (((p.toNat%7)+2:Nat):Int) 64)=e from za.symm]at q0
       have abN:dK lS.an.ag:=nH q3
       have ql:lS.table.xs.length≤1000000:=by have:lS.table.xs.length≤256:=q4;omega
       refine al rfl (aE rfl) ?_
       refine al rfl (aU (v:= .agg (bQ lS)) rfl rfl) ?_
       refine al rfl (aU (v:= .int .i64 ((cg (bG z.f) y.batch.xs).2)) rfl rfl) ?_
       refine nB (m:=j9 Tryz.prog 54) rfl rfl jy (Cert.none rfl) fun rE=> ?_
       change Ln _ _ _ _ _ _ _ _ (cy _ _ (.pointer (some ⟨rE,0,none⟩))) (ar rE (bQ lp) 54::_) _
       refine dC rfl (mJ rfl rfl ⟨fun _ hw=>ai.mem hw,?_⟩)
       refine al rfl (bn rfl) ?_
       refine Gc ?_
       iterate 3 refine Gs ?_
       iterate 3 refine Gg ?_
       refine Gs ?_
       refine Gc ?_
       refine av rfl (fun h7=> ?_) (fun h7=> ?_)
       ·
        exfalso;simp only[Bool.and_eq_true,decide_eq_true_eq,Bool.not_eq_true',decide_eq_false_iff_not]at h7;exact h7.2 (q0 h7.1)
       ·
        replace h7:=bz h7
        iterate 2 refine Gi ?_
        refine wo (X:=HT) (fun zz=>[(20,zz.h.sv.val),(22,zz.t.sv.val),(3,l.sv.val),(5, .int .i64 bits),(10, .pointer (some ⟨jK,0,none⟩)),(14, .int .i64 (((b.toNat%8)+5):Nat)),(15, .int .i64 (((p.toNat%7)+2):Nat)),(18, .pointer (some ⟨nU,0,none⟩)),(21, .int .i64 (i:Nat)),(24, .pointer (some ⟨rE,0,none⟩)),(25, .int .i64 ((cg (bG z.f) y.batch.xs).2))]) (fun zz=>[fz zz,fz lS,ar rE (bQ lS) 54,ar nU (bQ z.f) 54,ar lR (aF kr) 25,ar jK (cn k) 56]) (fun zz=>zz.h.xs=lS.table.xs∧(e=0→zz.t.xs=cQ z.f.table.xs y.batch.xs)) ?_ ?_
        ·
         refine Gc ?_
         iterate 2 refine Gs ?_
         refine Gc ?_
         refine av rfl (fun h8=> ?_) (fun h8=> ?_)
         ·
          replace h8:=bz h8
          have DP:(cg (bG z.f) y.batch.xs).2=0:=h8
          have Aa:e=0:=by
           apply Classical.byContradiction
           intro g0
           have:=q0 g0
           rw[DP]at this;exact g0 this.symm
          have r2:lS.table.xs=cQ z.f.table.xs y.batch.xs:=(q1 DP).2
          refine Gi ?_
          iterate 2 refine Gs ?_
          refine Gi ?_
          exact oY ⟨z.t,z.t⟩ ⟨by show z.t.xs=_;rw[DO Aa];exact r2.symm,DO⟩ (Sub.cons rfl (Sub.cons rfl (Sub.cons rfl (Sub.cons rfl (Sub.cons rfl (Sub.cons rfl (Sub.cons rfl (Sub.cons rfl (Sub.cons rfl (Sub.cons rfl (Sub.cons rfl (Sub.nil _)))))))))))) (fun w hw=>ai.mem (abF (ai.mem hw:Mem _ [fz z,fz lS,ar rE (bQ lS) 54,ar nU (bQ z.f) 54,ar lR (aF kr) 25,ar jK (cn k) 56] _)))
         ·
          replace h8:=bz h8
          have DP:(cg (bG z.f) y.batch.xs).2≠0:=h8
          have r2:lS.table.xs=z.f.table.xs:=q2 DP
          refine Gi ?_
          exact oY ⟨z.h,z.t⟩ ⟨by show z.h.xs=_;rw[Il];exact r2.symm,DO⟩ (Sub.cons rfl (Sub.cons rfl (Sub.cons rfl (Sub.cons rfl (Sub.cons rfl (Sub.cons rfl (Sub.cons rfl (Sub.cons rfl (Sub.cons rfl (Sub.cons rfl (Sub.cons rfl (Sub.nil _)))))))))))) (fun w hw=>ai.mem (abG (ai.mem hw:Mem _ [fz z,fz lS,ar rE (bQ lS) 54,ar nU (bQ z.f) 54,ar lR (aF kr) 25,ar jK (cn k) 56] _)))
        ·
         rintro v ⟨yV,wJ⟩
         have vH:v.h.xs.length≤1000000:=by rw[yV];exact ql
         refine Gc ?_
         iterate 3 refine Gs ?_
         refine fF (cJ rfl (by omega)) ?_
         refine Gs ?_
         refine Gc ?_
         refine av rfl (fun h9=> ?_) (fun h9=> ?_)
         ·
          exfalso;simp[yV]at h9
         ·
          replace h9:=bz h9
          refine Gc ?_
          refine pf [8,12,13,2012,4008] [[],[],[],[],[],[],[],[],[],[8],[8],[8],[],[8,12],[8,12,13]] [0,1,2,3,4,5,6,7,8,9,10,11,12,13,14] [fz v,fz lS,ar rE (bQ lS) 54,ar nU (bQ z.f) 54,ar lR (aF kr) 25,ar jK (cn k) 56] [(12,j9 Tryz.prog 25)] (by kernel_rfl) (fun _ hw=>ai.mem hw) (by kernel_rfl) (by kernel_rfl) ?_
          refine al rfl (aI (o':=0) rfl rfl) ?_
          refine al rfl (aI (o':=0) rfl rfl) ?_
          refine al rfl (jv rfl) ?_
          refine al rfl (aE rfl) ?_
          refine al rfl (aE rfl) ?_
          refine al rfl (bo rfl rfl i rfl (by omega)) ?_
          refine al rfl (aI rfl rfl) ?_
          refine al rfl (bO (j:=1) rfl i hy rfl (by decide)) ?_
          have ajF:Mb y _:=⟨List.mem_of_getElem? hy⟩
          refine qY rfl rfl abN (fun e x w hw=>ai.mem hw) (Cert.one (i:=12) rfl rfl rfl jy (Cert.none rfl)) fun DQ abO=>⟨fun _ hw=>ai.mem hw,?_⟩
          refine al rfl (aE rfl) ?_
          refine al rfl (aU (v:= .agg (aF DQ)) rfl rfl) ?_
          refine al rfl (aU (v:= .int .i64 (nF (cv lS.an.ag) y.fB.xs)) rfl rfl) ?_
          refine nB (m:=j9 Tryz.prog 25) rfl rfl jy (Cert.none rfl) fun vE=> ?_
          change Ln _ _ _ _ _ _ _ _ (cy _ _ (.pointer (some ⟨vE,0,none⟩))) (ar vE (aF gh) 25::_) _
          refine dC rfl (mJ rfl rfl ⟨fun _ hw=>ai.mem hw,?_⟩)
          refine al rfl (bn rfl) ?_
          refine Gc ?_
          refine Gs ?_
          refine bu rfl trivial fun kJ abP=> ?_
          have PB:cX (cv DQ)=(g,0):=by rw[abO];exact g1
          have abQ:bG kJ=g:=by rw[abP];exact congrArg Prod.fst PB
          have PC:(cX (cv DQ)).2=0:=congrArg Prod.snd PB
          rw[←abQ]at g2 g3
          have ajG:=g2.fb.small
          have d188:qv (bG kJ) k bits=rn kJ.table.xs k bits∧qw (bG kJ) k bits=rp kJ.table.xs k bits:=g2.fb.aaF k bits
          have ajH:dy kJ.table.xs=true:=g2.fb.right
          refine Gs ?_
          refine ah (aU (v:= .agg (bQ kJ)) rfl rfl) ?_
          refine ah (aU (v:= .int .i64 ((cX (cv DQ)).2)) rfl rfl) ?_
          refine bM fun xv=> ?_
          iterate 2 refine Gs ?_
          refine Gc ?_
          iterate 3 refine Gs ?_
          iterate 2 refine Gg ?_
          iterate 2 refine Gs ?_
          refine Gc ?_
          iterate 3 refine Gs ?_
          iterate 3 refine Gg ?_
          refine bS rfl rfl rfl (fun hg=>cJ (dI (aG hg rfl) (dI (aG hg rfl) gN)) (by simp only[Z0,Z1,Z2,Z3,Z4,Z5,Z6,Z7,Z8,Z9]at hg;omega)) ?_
          refine bS rfl rfl rfl (fun hg=>(Ry.yl (iD (aG hg rfl)))) ?_
          refine bS rfl rfl rfl (fun hg=>(Ry.yl (aE (aG hg rfl)))) ?_
          refine lC rfl rfl rfl (fun hg=>(Ry.yl (aE rfl))) ?_
          refine lC rfl rfl rfl (fun hg=>(Ry.yl (aE (aG hg rfl)))) ?_
          refine lC rfl rfl rfl (fun hg=>(Ry.yl (aI (o':=9) rfl rfl))) ?_
          refine lC rfl rfl rfl (fun hg=>(Ry.yl (bJ (aG hg rfl)))) ?_
          refine lC rfl rfl rfl (fun hg=>(Ry.yl (aE rfl))) ?_
          refine lC rfl rfl rfl (fun hg=>cJ (dI (aG hg rfl) (dI (aG hg rfl) gN)) (by simp only[Z0,Z1,Z2,Z3,Z4,Z5,Z6,Z7,Z8,Z9]at hg;omega)) ?_
          refine lC rfl rfl rfl (fun hg=>(Ry.yl (uz (aG hg rfl) (sY hg rfl) rfl))) ?_
          refine lC rfl rfl rfl (fun hg=>(Ry.yl (iD (aG hg rfl)))) ?_
          refine bS rfl rfl rfl (fun hg=>(Ry.yl (uz (aG hg rfl) (sY hg rfl) rfl))) ?_
          refine Gs ?_
          refine Gc ?_
          refine av rfl (fun lN=> ?_) (fun lN=> ?_)
          ·
           exfalso
           rcases g3 with g3|⟨g3,g4,g5⟩
           ·
            have g6:kJ.table.xs=lS.table.xs:=g3
            simp[PC,g6,yV]at lN
           ·
            have g6:kJ.table.xs=v.t.xs:=by rw[wJ (za.trans g4)];exact g5
            rcases g3 with g3|g3<;>simp[PC,g6,g3]at lN
          ·
           replace lN:=bz lN
           refine Gc ?_
           refine jd [3,1000] [[],[],[],[0],[0,3]] [0,1,2,3,4] [fz kJ,ar xv (bQ kJ) 54] (fun _ hw=>ai.mem hw) (by kernel_rfl) (by kernel_rfl) ?_
           refine j8 rfl (gu rfl) ?_
           refine al rfl (aI (o':=9) rfl rfl) ?_
           refine al rfl (bJ rfl) ?_
           refine dC rfl (mJ rfl rfl ⟨fun _ hw=>ai.mem hw,?_⟩)
           refine al rfl (bn rfl) ?_
           refine Gc ?_
           iterate 5 refine Gs ?_
           refine ah (aU (v:= .agg (ax (qv (bG kJ) k bits))) rfl rfl) ?_
           refine ah (aU (v:= .int .i64 (qw (bG kJ) k bits)) rfl rfl) ?_
           refine bM fun b31=> ?_
           iterate 2 refine Gs ?_
           refine Gc ?_
           iterate 5 refine Gs ?_
           refine ah (aU (v:= .agg (ax (rn kJ.table.xs k bits))) rfl rfl) ?_
           refine ah (aU (v:= .int .i64 (rp kJ.table.xs k bits)) rfl rfl) ?_
           refine bM fun jo=> ?_
           iterate 2 refine Gs ?_
           refine Gc ?_
           iterate 2 refine Gs ?_
           refine ah (D7 rfl rfl) ?_
           refine Gs ?_
           iterate 3 refine Gg ?_
           refine Gs ?_
           refine Gc ?_
           refine av rfl (fun DR=> ?_) (fun DR=> ?_)
           ·
            exfalso;simp[d188.1,d188.2]at DR
           ·
            replace DR:=bz DR
            refine Gc ?_
            iterate 3 refine Gs ?_
            refine Gi ?_
            exact bI (x:=(i,s)) (i+1,⟨kJ,kJ.table⟩) ⟨by first|omega|(simp only[];omega),g2,rfl⟩ (by simp only;omega) (Sub.cons rfl (Sub.cons rfl (Sub.cons rfl (Sub.cons rfl (Sub.cons rfl (Sub.cons rfl (Sub.cons rfl (Sub.cons rfl (Sub.nil _))))))))) (fun w hw=>ai.mem (aaI (f:=kJ) (ai.mem hw:Mem _ [fz kJ,ar nU (bQ kJ) 54,ar lR (aF kr) 25,ar jK (cn k) 56] _)))
     ·
      replace h5:=bz h5
      refine Gc ?_
      refine Gs ?_
      refine Gc ?_
      refine au (.inl rfl) (aQ rfl (aq rfl)) (fun w1 hw=> ?_)
      exact⟨congrArg (fun b=>Ending.returned (Value.bool b)) (rfl),ai.mem hw⟩
open Go.ay Go.Kb
open Go.RowKit
end Go.Proofs.YtaipiecplldinaaGreat
namespace Go.ay
open Go.ChangeShapes Go.WideShapes Go.ChangeAt Go.RowKit Go.Kb
variable {H:Type} {enc:TypeId×Value→H} {P:Program}
theorem PD(hl:laidOutB P=true){W W':World}{sp:Nat→Bool}: ∀{ts:List TypeId} {vs:List Value} {ds:List (DataW H)} {ps:List MemPlace},
  (∀t∈ts,P.readableRec t=true∧t<P.types.size)→DataW.TrodAll enc P W 0 (fun _=>true) true ts vs ds ps→(∀p∈ps,W.sameAt W' p)→(∀p∈ps,sp p.block=true)→
  DataW.TrodAll enc P W' 0 sp true ts vs ds ps
 |[],_,_,_,_,h,_,_=>by
  obtain⟨rfl,rfl,rfl⟩:=trodAll_nil h
  exact rfl
 |t::_,_,_,_,ht,h,hs,hp=>by
  obtain⟨v,PE,d,PF,a,b,rfl,rfl,rfl,h1,h2⟩:=trodAll_cons h
  exact⟨a,b,WideElems.Trod_stays hl (ht t (by simp)).1 (ht t (by simp)).2 h1 (fun p h=>hs p (by simp[h])) (fun p h=>hp p (by simp[h])),
   PD hl (fun t h=>ht t (by simp[h])) h2 (fun p h=>hs p (by simp[h])) (fun p h=>hp p (by simp[h])),rfl⟩
theorem Im{W:World}{b:Nat}{sp:Nat→Bool}{hd:Bool}: ∀{ts:List TypeId} {vs:List Value} {ds:List (DataW H)} {ps:List MemPlace},
  DataW.TrodAll enc P W b sp hd ts vs ds ps→vs.length=ts.length∧ds.length=ts.length
 |[],_,_,_,h=>by
  obtain⟨rfl,rfl,rfl⟩:=trodAll_nil h
  exact⟨rfl,rfl⟩
 |_::_,_,_,_,h=>by
  obtain⟨v,PE,d,PF,a,b,rfl,rfl,rfl,h1,h2⟩:=trodAll_cons h
  have:=Im h2
  simp[this.1,this.2]
theorem abR(hl:laidOutB P=true){f:Func}{s:ChangeSpec}{apart fresh handsOn:Bool}{W W':World}{args:Array Value}{ds gs:List (DataW H)}{before:List MemPlace}{tb:TypeId}
  (hp:f.params.toList.all (fun t=>P.readableRec t&&decide (t<P.types.size))=true) (hr:f.resultTypes= #[tb]) (hb:P.underlying tb=some .bool) (hv:s.vars=[])
  (Io: ∀ds:List (DataW H),ds.length=f.params.size→s.fn H ds={results:=[.lit (.bool true)],args:=ds})
  (hW:DataW.Whole enc P f.params.toList s.vars apart W args.toList ds gs before) (PG:Below W.heap.size W W'):
  s.post enc P f apart fresh handsOn false W args (.bool true) W':=by
 have bx:=hW.lt
 have hW0:=hW
 obtain⟨p,q,hA,hV,rfl,lG,cB⟩:=hW
 rw[hv]at hV
 obtain⟨rfl,rfl⟩:=trodVars_none hV
 have hlen:=Im hA
 have e1:s.fn H (ds++[])={results:=[.lit (.bool true)],args:=ds}:=by rw[List.append_nil];exact Io ds (by rw[hlen.2];simp)
 have lj: ∀t∈f.params.toList,P.readableRec t=true∧t<P.types.size:=fun t ht=>by
  simpa using List.all_eq_true.1 hp t ht
 refine⟨ds,[],p++[],[],p,[],hW0,?_,?_,?_,PG.frame _,fun h=>by cases h⟩
 ·
  rw[e1,hr];exact trodAll_mk1 (shut_bool hb true)
 ·
  rw[e1]
  exact PD hl lj hA (fun x hx=>PG.same (bx x (by simp[hx]))) (fun x hx=>by simpa using bx x (by simp[hx]))
 ·
  rw[e1,hv];exact rfl
theorem abS{w:World}{b:Nat}{e:TypeId}{v:Value}(he:P.underlying e=some (.int .u8))(h:Cell.okWide P w .any b e v): ∃n:Nat,n<256∧v= .int .u8 n:=by
 cases v with
 |int k n=>
  simp only[Cell.okWide,he,Cell.ok,IntKind.has]at h
  obtain⟨rfl,h1,h2⟩:=h
  have a1:(0:Int)≤n:=h1
  have a2:n≤(255:Int):=h2
  exact⟨n.toNat,by omega,by rw[Int.toNat_of_nonneg a1]⟩
 |_=>simp[Cell.okWide,he,Cell.ok]at h
theorem abT{w:World}{b:Nat}{e:TypeId}{v:Value}(he:P.underlying e=some (.int .i64))(h:Cell.okWide P w .any b e v): ∃n:Int,v= .int .i64 n∧ -2^63≤n∧n<2^63:=by
 cases v with
 |int k n=>
  simp only[Cell.okWide,he,Cell.ok,IntKind.has]at h
  obtain⟨rfl,h1,h2⟩:=h
  have a1:(-2^63:Int)≤n:=h1
  have a2:n≤(2^63 -1:Int):=h2
  exact⟨n,rfl,a1,by omega⟩
 |_=>simp[Cell.okWide,he,Cell.ok]at h
theorem abU{w:World}{b:Nat}{t:TypeId}{v:Value}(he:P.underlying t=some (.int .i64))(h:Value.okWide P w .any b t v): ∃n:Int,v= .int .i64 n∧ -2^63≤n∧n<2^63:=by
 unfold Value.okWide at h
 rw[he]at h
 exact abT he h
theorem abV{w:World}{b:Nat}{t:TypeId}{v:Value}(he:P.underlying t=some (.int .u8))(h:Value.okWide P w .any b t v): ∃n:Nat,n<256∧v= .int .u8 n:=by
 unfold Value.okWide at h
 rw[he]at h
 exact abS he h
theorem PH{α:Type}{l:List α}(h:l.length=6): ∃a b c d e f,l=[a,b,c,d,e,f]:=match l,h with|[a,b,c,d,e,f],_=>⟨a,b,c,d,e,f,rfl⟩
theorem PI{w:World}{b:Nat}{t:TypeId}{v:Value}(he:P.underlying t=some (.int .u8))(h:Value.okWide P w .any b t v): ∃n:UInt8,v= .int .u8 n.toNat:=by
 obtain⟨n,hn,rfl⟩:=abV he h
 exact⟨UInt8.ofNat n,by simp;omega⟩
open Go.ChangeShapes Go.WideShapes Go.ChangeAt Go.RowKit Go.Kb
variable {P:Program}
theorem Ip{α:Type}{p:Nat→α→Prop}: ∀{n:Nat},(∀i,i<n→ ∃x,p i x)→ ∃l:List α,l.length=n∧ ∀i x,l[i]? =some x→p i x
 |0,_=>⟨[],rfl,fun i x h=>by simp at h⟩
 |n+1,h=>by
  obtain⟨l,hl,hp⟩:=Ip (n:=n) fun i hi=>h i (by omega)
  obtain⟨x,hx⟩:=h n (by omega)
  refine⟨l++[x],by simp[hl],fun i y hy=> ?_⟩
  by_cases hi:i<n
  ·
   rw[List.getElem?_append_left (by omega)]at hy;exact hp i y hy
  ·
   have:i=n:=by
    have:=(List.getElem?_eq_some_iff.1 hy).1
    rw[List.length_append,hl]at this;simp at this;omega
   subst this
   rw[List.getElem?_append_right (by omega),hl]at hy
   have:x=y:=by simpa using hy
   exact this▸hx
class iY(P:Program)(t:TypeId)(τ:Type)[Deep τ]:Prop where
 sz:P.cellsOf t=Deep.c τ
 h: ∀{H:Type} {enc:TypeId×Value→H} {w:World} {fuel:Nat} {cs:List Value} {d:DataW H} {ps:List MemPlace},DataW.trod enc P w 0 (fun _=>true) true fuel t cs=some (d,ps)→(∀n∈d.weights P t,n≤reachBytes)→
  ∃x:τ,(Deep.cells x).toList=cs∧Deep.aZ (hp w) x
theorem abW{w:World}{b:Nat}{a:Addr}{n:Nat}{cs:List Value}(h:w.cells? b a n=some cs):cs.length=n∧ ∀j,j<n→w.cell? (a.add j)=cs[j]? :=by
 unfold World.cells? at h
 split at h
 ·
  have hl:=mapM_some_length h
  refine⟨by simpa using hl,fun j hj=> ?_⟩
  exact mapM_some_get h j j (by simp[hj])
 ·
  cases h
theorem Iq{H:Type}{e:TypeId}{n:Nat}: ∀{l:List (DataW H)} {d:DataW H},d∈l→n∈d.weights P e→n∈DataW.weightsAll P e l
 |x::l,d,hd,hn=>by
  rw[DataW.weightsAll]
  rcases List.mem_cons.1 hd with rfl|hd
  ·
   exact List.mem_append_left _ hn
  ·
   exact List.mem_append_right _ (Iq hd hn)
theorem Ir{H:Type}{n:Nat}: ∀{ts:List TypeId} {l:List (DataW H)} {i:Nat} {t:TypeId} {d:DataW H},ts[i]? =some t→l[i]? =some d→n∈d.weights P t→n∈DataW.weightsEach P ts l
 |[],_,i,_,_,h,_,_=>by simp at h
 |_::_,[],i,_,_,_,h,_=>by simp at h
 |t0::ts,d0::l,0,t,d,ht,hd,hn=>by
  obtain rfl:t0=t:=by simpa using ht
  obtain rfl:d0=d:=by simpa using hd
  rw[DataW.weightsEach];exact List.mem_append_left _ hn
 |t0::ts,d0::l,i+1,t,d,ht,hd,hn=>by
  rw[DataW.weightsEach];exact List.mem_append_right _ (Ir (i:=i) (by simpa using ht) (by simpa using hd) hn)
theorem abX:reachBytes≤140737488355328:=by decide
theorem th{t e:TypeId}{τ:Type}[Deep τ](hu:P.underlying t=some (.slice e))(mH:Nat.ble 1 (P.bytesOf e)=true)(hc:1≤Deep.c τ)(hs:P.cellsOf t=1)[o:iY P e τ]:iY P t (Sl τ):=⟨hs,fun{H enc w fuel cs d ps} h hw=>by
 have hb:1≤P.bytesOf e:=Nat.le_of_ble_eq_true mH
 rcases Go.Deep.open_slice hu h with⟨rfl,_⟩|⟨a,len,cap,m,n,D,Pl,rfl,_,hl,_,hm,hx,Bg⟩
 ·
  exact⟨⟨Sv.none,[]⟩,rfl,uR⟩
 ·
  simp only[if_true]at hm
  subst hm
  have hd:d= .slice ((List.range len).map D) ((List.range (m -len)).map fun j=>D (len+j)):=congrArg Prod.fst hx
  subst hd
  simp only[DataW.weights,hu,List.length_map,List.length_range]at hw
  have uL:m≤140737488355328:=by
   have h1:=hw _ (List.mem_cons_self ..)
   have h2:(len+(m -len))*1≤(len+(m -len))*P.bytesOf e:=Nat.mul_le_mul_left _ hb
   have:=abX;omega
  have PJ: ∀i,i<m→ ∃cs',(cs'.length=Deep.c τ∧ ∀j,j<Deep.c τ→w.cell? ((a.add (i*Deep.c τ)).add j)=cs'[j]?)∧DataW.trod enc P w 0 (fun _=>true) true n e cs'=some (D i,Pl i):=fun i hi=>by
   obtain⟨cs',h1,h2⟩:=Bg i hi
   rw[o.sz]at h1
   exact⟨cs',abW h1,h2⟩
  have PK:0<m→a.spot=none:=fun hm=>by
   obtain⟨cs',⟨h1,h2⟩,_⟩:=PJ 0 hm
   have h3:=h2 0 (by omega)
   have e0:(a.add (0*Deep.c τ)).add 0=a:=by simp[Addr.add]
   rw[e0,List.getElem?_eq_getElem (by omega)]at h3
   unfold World.cell? at h3
   split at h3
   ·
    split at h3
    ·
     cases h3
    ·
     rename_i hs;simpa using hs
   ·
    cases h3
  obtain⟨l,nG,DS⟩:=Ip (p:=fun i (x:τ)=>(∀j,j<Deep.c τ→w.cell? ((a.add (i*Deep.c τ)).add j)=(Deep.cells x)[j]?)∧Deep.aZ (hp w) x) (n:=len) fun i hi=>by
   obtain⟨cs',⟨h1,h2⟩,h3⟩:=PJ i (by omega)
   obtain⟨x,mZ,jU⟩:=o.h h3 (fun k hk=>hw k (List.mem_cons_of_mem _ (List.mem_append_left _ (Iq (List.mem_map.2 ⟨i,List.mem_range.2 hi,rfl⟩) hk))))
   refine⟨x,fun j hj=> ?_,jU⟩
   rw[h2 j hj,←mZ];simp
  refine⟨⟨⟨false,a.block,a.off,len,m,a.spot⟩,l⟩,rfl,⟨⟨(fun h=>by cases h),hl,by simp only;omega,PK⟩,by simp[nG],fun i x hi j hj=> ?_⟩,fun x hx=> ?_⟩
  ·
   have fC:i<len:=by rw[←nG];exact(List.getElem?_eq_some_iff.1 hi).1
   have h1:=(DS i x hi).1 j hj
   have hs:=PK (by omega)
   have ea:(a.add (i*Deep.c τ)).add j=⟨a.block,a.off+i*Deep.c τ+j,none⟩:=by
    obtain⟨ab,ao,asp⟩:=a
    simp only at hs
    subst hs
    rw[Addr.gB,Addr.gB]
   rw[ea,qP]at h1
   exact h1
  ·
   obtain⟨i,hi⟩:=List.getElem?_of_mem hx
   exact(DS i x hi).2⟩
theorem oQ{H:Type}{enc:TypeId×Value→H}{w:World}{fuel:Nat}{t:TypeId}{cs:List Value}{d:DataW H}{ps:List MemPlace}{fs:Array Field}(hu:P.underlying t=some (.struct fs))(h:DataW.trod enc P w 0 (fun _=>true) true fuel t cs=some (d,ps))(hw: ∀n∈d.weights P t,n≤reachBytes)
  {i tf off:Nat} (la:(fs[i]?).map (fun f=>(f.type,f.offset))=some (tf,off)) (τ:Type) [Deep τ] [o:iY P tf τ]:cs.length=P.cellsOf t∧ ∃x:τ,(Deep.cells x).toList=(cs.drop off).take (Deep.c τ)∧Deep.aZ (hp w) x:=by
 obtain⟨f,hf,e⟩:=Option.map_eq_some_iff.1 la
 obtain⟨rfl,rfl⟩:=Prod.mk.inj e
 obtain⟨xs,n,_,hx,hl,hlen,hg⟩:=DataW.trod_struct hu h
 have h1:=hg i f hf
 have hi:i<xs.length:=by rw[hlen];exact(Array.getElem?_eq_some_iff.1 hf).1
 rw[List.getElem?_eq_getElem hi,o.sz]at h1
 have hd:d= .agg (xs.map (·.1)):=congrArg Prod.fst hx
 subst hd
 obtain⟨x,mZ,jU⟩:=o.h (d:=xs[i].1) (ps:=xs[i].2) h1 (fun k hk=>hw k (by
  simp only[DataW.weights,hu]
  exact Ir (i:=i) (t:=f.type) (d:=xs[i].1) (by
   have:fs.toList[i]? =some f:=by simpa using hf
   rw[List.getElem?_map,this];rfl) (by simp[hi]) hk))
 exact⟨hl,x,mZ,jU⟩
theorem abY{H:Type}{enc:TypeId×Value→H}{w:World}{fuel:Nat}{t e:TypeId}{m:Nat}{cs:List Value}{d:DataW H}{ps:List MemPlace}(hu:P.underlying t=some (.array m e))(h:DataW.trod enc P w 0 (fun _=>true) true fuel t cs=some (d,ps))(hw: ∀n∈d.weights P t,n≤reachBytes)
  (τ:Type) [Deep τ] [o:iY P e τ]:cs.length=P.cellsOf t∧ ∀i,i<m→ ∃x:τ,(Deep.cells x).toList=(cs.drop (i*Deep.c τ)).take (Deep.c τ)∧Deep.aZ (hp w) x:=by
 cases fuel with
 |zero=>simp[DataW.trod]at h
 |succ n=>
  unfold DataW.trod at h
  rw[hu]at h
  split at h<;>simp_all
  rename_i m' e' heq
  obtain⟨hl,xs,gW,hd⟩:=h
  obtain⟨rfl,rfl⟩:=heq
  intro i hi
  have hlen:=mapM_some_length gW
  have nq:i<xs.length:=by simpa[hlen]using hi
  have h1:=mapM_some_get gW i i (by simp[hi])
  rw[List.getElem?_eq_getElem nq,o.sz]at h1
  obtain⟨rfl,-⟩:=hd
  exact o.h (d:=xs[i].1) (ps:=xs[i].2) h1 (fun k hk=>hw k (by
   simp only[DataW.weights,hu]
   exact Iq (List.mem_map_of_mem (List.getElem_mem nq)) hk))
theorem Av{α:Type}{cs:List α}{a b:Nat}(h:cs.length=a+b):(cs.drop 0).take a++(cs.drop a).take b=cs:=by
 rw[List.drop_zero,List.take_of_length_le (l:=cs.drop a) (by rw[List.length_drop];omega),List.take_append_drop]
theorem abZ{α:Type}{cs:List α}{a b c:Nat}(h:cs.length=a+b+c):(cs.drop 0).take a++(cs.drop a).take b++(cs.drop (a+b)).take c=cs:=by
 have h1:=Av (cs:=cs) (a:=a+b) (b:=c) (by omega)
 conv=>rhs;rw[←h1]
 congr 1
 rw[List.drop_zero,List.take_add]
theorem ab0{α:Type}{cs:List α}{a b c d:Nat}(h:cs.length=a+b+c+d):(cs.drop 0).take a++(cs.drop a).take b++(cs.drop (a+b)).take c++(cs.drop (a+b+c)).take d=cs:=by
 have h1:=Av (cs:=cs) (a:=a+b+c) (b:=d) (by omega)
 conv=>rhs;rw[←h1]
 congr 1
 rw[List.drop_zero,List.take_add,List.take_add]
def DT(n:Int):Array Value:= #[.int .i64 n]
instance:bp DT 1:=⟨fun _=>rfl,fun _=>by simp[DT,Value.oneCell']⟩
instance:Deep Int:=Deep.flat DT 1
def Aw(n:UInt16):Array Value:= #[.int .u16 n.toNat]
instance:bp Aw 1:=⟨fun _=>rfl,fun _=>by simp[Aw,Value.oneCell']⟩
instance:Deep UInt16:=Deep.flat Aw 1
def Ax(b:Bool):Array Value:= #[.bool b]
instance:bp Ax 1:=⟨fun _=>rfl,fun _=>by simp[Ax,Value.oneCell']⟩
instance:Deep Bool:=Deep.flat Ax 1
theorem ab1{t:TypeId}(hu:P.underlying t=some (.int .i64))(hs:P.cellsOf t=1):iY P t Int:=⟨hs,fun h _=>by
 obtain⟨n,rfl,_,_⟩:=DataW.trod_int hu h
 exact⟨n,rfl,trivial⟩⟩
theorem ab2{t:TypeId}(hu:P.underlying t=some (.int .u8))(hs:P.cellsOf t=1):iY P t UInt8:=⟨hs,fun h _=>by
 obtain⟨n,rfl,_,hw⟩:=DataW.trod_int hu h
 simp only[Lit.wf,Bool.and_eq_true,decide_eq_true_eq]at hw
 have h1:(0:Int)≤n:=hw.1
 have h2:n≤(255:Int):=hw.2
 refine⟨UInt8.ofNat n.toNat,?_,trivial⟩
 have:((UInt8.ofNat n.toNat).toNat:Int)=n:=by simp;omega
 show(aM (UInt8.ofNat n.toNat)).toList=_
 simp only[aM,this]⟩
theorem ab3{t:TypeId}(hu:P.underlying t=some (.int .u16))(hs:P.cellsOf t=1):iY P t UInt16:=⟨hs,fun h _=>by
 obtain⟨n,rfl,_,hw⟩:=DataW.trod_int hu h
 simp only[Lit.wf,Bool.and_eq_true,decide_eq_true_eq]at hw
 have h1:(0:Int)≤n:=hw.1
 have h2:n≤(65535:Int):=hw.2
 refine⟨UInt16.ofNat n.toNat,?_,trivial⟩
 have:((UInt16.ofNat n.toNat).toNat:Int)=n:=by simp;omega
 show(Aw (UInt16.ofNat n.toNat)).toList=_
 simp only[Aw,this]⟩
theorem open_bool{t:TypeId}(hu:P.underlying t=some .bool)(hs:P.cellsOf t=1):iY P t Bool:=⟨hs,fun h _=>by
 obtain⟨n,rfl,_⟩:=DataW.trod_bool hu h
 exact⟨n,rfl,trivial⟩⟩
theorem ab4{H:Type}{enc:TypeId×Value→H}{w:World}{b:Nat}{t e:TypeId}{τ:Type}[Deep τ][o:iY P t (Sl τ)](hu:P.underlying t=some (.slice e)){v:Value}{d:DataW H}{ps:List MemPlace}(hv:Value.okWide P w .any b t v)(h:DataW.Trod enc P w 0 (fun _=>true) true t v d ps)(hw: ∀n∈d.weights P t,n≤reachBytes):
  ∃x:Sl τ,v=x.sv.val∧Deep.aZ (hp w) x:=by
 obtain⟨fuel,h⟩:=h
 obtain⟨x,h1,h2⟩:=o.h h hw
 refine⟨x,?_,h2⟩
 have hc:v.cells= #[v]:=by
  unfold Value.okWide at hv
  rw[hu]at hv
  unfold Cell.okWide at hv
  rw[hu]at hv
  cases v<;>simp_all[Cell.ok,Value.cells]
 rw[hc]at h1
 have:[x.sv.val]=[v]:=h1
 simpa using this.symm
theorem ab5{H:Type}{enc:TypeId×Value→H}{w:World}{b:Nat}{t:TypeId}{τ:Type}[Deep τ][o:iY P t τ](hu: ∃d,P.underlying t=some d∧sU d=true){v:Value}{d:DataW H}{ps:List MemPlace}(hv:Value.okWide P w .any b t v)(h:DataW.Trod enc P w 0 (fun _=>true) true t v d ps)(hw: ∀n∈d.weights P t,n≤reachBytes):
  ∃x:τ,v= .agg (Deep.cells x)∧Deep.aZ (hp w) x:=by
 obtain⟨fuel,h⟩:=h
 obtain⟨x,h1,h2⟩:=o.h h hw
 refine⟨x,?_,h2⟩
 obtain⟨dd,CJ,FI⟩:=hu
 have hc: ∃cs,v= .agg cs:=by
  unfold Value.okWide at hv
  rw[CJ]at hv
  cases dd<;>simp[sU]at FI
  ·
   obtain⟨cs,rfl,_⟩:=hv;exact⟨cs,rfl⟩
  ·
   obtain⟨cs,rfl,_⟩:=hv;exact⟨cs,rfl⟩
 obtain⟨cs,rfl⟩:=hc
 have:(Deep.cells x).toList=cs.toList:=h1
 rw[Array.toList_inj.1 this]
structure Arg(H:Type)(enc:TypeId×Value→H)(P:Program)(W:World)(b:Nat)(t:TypeId)(v:Value):Prop where
 ok:Value.okWide P W .any b t v
 trod: ∃d ps,DataW.Trod enc P W 0 (fun _=>true) true t v d ps∧ ∀n∈d.weights P t,n≤reachBytes
theorem Arg.sl{H:Type}{enc:TypeId×Value→H}{W:World}{b:Nat}{t e:TypeId}{v:Value}(h:Arg H enc P W b t v)(hu:P.underlying t=some (.slice e))(τ:Type)[Deep τ][o:iY P t (Sl τ)]: ∃x:Sl τ,v=x.sv.val∧Deep.aZ (hp W) x:=by
 obtain⟨d,ps,h1,h2⟩:=h.trod
 exact ab4 hu h.ok h1 h2
theorem Arg.agg{H:Type}{enc:TypeId×Value→H}{W:World}{b:Nat}{t:TypeId}{v:Value}(h:Arg H enc P W b t v){n:Nat}(hu:fY P t n)(τ:Type)[Deep τ][o:iY P t τ]: ∃x:τ,v= .agg (Deep.cells x)∧Deep.aZ (hp W) x:=by
 obtain⟨d,ps,h1,h2⟩:=h.trod
 exact ab5 hu.row h.ok h1 h2
theorem PL{H:Type}{enc:TypeId×Value→H}{W:World}{sp:Nat→Bool}{hd:Bool}: ∀{ts:List TypeId} {vs:List Value} {ds:List (DataW H)} {ps:List MemPlace},DataW.TrodAll enc P W 0 sp hd ts vs ds ps→ ∀(j:Nat) (t:TypeId) (v:Value),ts[j]? =some t→vs[j]? =some v→
  ∃d p,ds[j]? =some d∧DataW.Trod enc P W 0 sp hd t v d p
 |[],_,_,_,h,j,_,_,ht,_=>by simp at ht
 |t0::ts,vs,ds,ps,h,j,t,v,ht,hv=>by
  obtain⟨v0,PE,d0,PF,a,b,rfl,rfl,rfl,h1,h2⟩:=trodAll_cons h
  cases j with
  |zero=>
   obtain rfl:t0=t:=by simpa using ht
   obtain rfl:v0=v:=by simpa using hv
   exact⟨d0,a,rfl,h1⟩
  |succ j=>exact PL h2 j t v (by simpa using ht) (by simpa using hv)
theorem ab6{H:Type}{enc:TypeId×Value→H}{C:Checked}{os:Os}{f:FuncId}{fn:Func}{s:ChangeSpec}{conds:List PathCond}{apart fresh handsOn:Bool}{tb:TypeId}
  (own:ownKnob C.prog.godebug=none) (started:os.Started) (ab7:C.prog.inits.idxOf? f=none) (ab8:C.prog.funcs[f]? =some fn)
  (wit: ∃(w:World) (tape:Tape) (i:Input),w.os=os∧(w.forCall tape i).Shaped C.prog∧i.vars=[]∧Input.okWide C.prog (w.forCall tape i) .any w.heap.size f i∧
   s.pre6 enc C.prog fn conds apart (w.forCall tape i).memory i.args∧({}:Assume).holds C.prog (lone (Frame.enter C.prog f i.args .normal) [] (w.forCall tape i)))
  (hl:laidOutB C.prog=true) (hp:fn.params.toList.all (fun t=>C.prog.readableRec t&&decide (t<C.prog.types.size))=true) (hr:fn.resultTypes= #[tb]) (hb:C.prog.underlying tb=some .bool)
  (hv:s.vars=[]) (Io: ∀ds:List (DataW H),ds.length=fn.params.size→s.fn H ds={results:=[.lit (.bool true)],args:=ds})
  (ab9: ∀(W:World) (base:Nat) (vs:List Value),vs.length=fn.params.size→(∀(j:Nat) t v,fn.params[j]? =some t→vs[j]? =some v→Arg H enc C.prog W base t v)→
   Calls C.prog f vs.toArray W fun e W'=>e= .returned (.bool true)∧Mem W [] W'):
  ReturnsInHanded {} C os f .any (s.pre6 enc C.prog fn conds apart) (s.post enc C.prog fn apart fresh handsOn false):=by
 refine returnsInHanded_of_change_shaped own started ab7 ab8 wit ?_
 intro W base args ds gs before aca hW _ nZ _ _
 have hlen:args.toList.length=fn.params.size:=by
  obtain⟨p,q,hA,_⟩:=hW
  rw[(Im hA).1];simp
 have h:=ab9 W base args.toList hlen (fun j t v h1 h2=>⟨aca j t v h1 (by simpa using h2),by
  obtain⟨p,q,hA,_⟩:=hW
  obtain⟨d,pp,hd,ht⟩:=PL hA j t v (by simpa using h1) h2
  refine⟨d,pp,ht,fun n hn=> ?_⟩
  have hh:=List.all_eq_true.1 nZ n (Ir (i:=j) (t:=t) (d:=d) (by rw[List.getElem?_append_left (by have:=(Array.getElem?_eq_some_iff.1 h1).1;simpa using this)];simpa using h1)
   (by rw[List.getElem?_append_left (List.getElem?_eq_some_iff.1 hd).1];exact hd) hn)
  simpa using hh⟩)
 rw[Array.toArray_toList]at h
 exact h.mono fun e W' hh=>⟨_,hh.1,abR hl hp hr hb hv Io hW hh.2.below⟩
end Go.ay
namespace Go.Proofs.YtaipiecplldinaaGreat
open Go.ay Go.Kb
instance op3:iY Tryz.prog 3 Int:=ab1 Tryz.underlying3 (by kernel_rfl)
instance op4:iY Tryz.prog 4 Bool:=open_bool Tryz.underlying4 (by kernel_rfl)
instance op5:iY Tryz.prog 5 UInt8:=ab2 Tryz.underlying5 (by kernel_rfl)
instance ajI:iY Tryz.prog 66 UInt16:=ab3 Tryz.underlying66 (by kernel_rfl)
instance:bp cn 16:=⟨gP,fun k=>(inferInstance:gq (cn k) 16).one⟩
instance:Deep Key:=Deep.flat cn 16
instance:bp c5 18:=⟨od,fun k=>(inferInstance:gq (c5 k) 18).one⟩
instance:Deep cU:=Deep.flat c5 18
instance ajJ:iY Tryz.prog 56 Key:=⟨by kernel_rfl,fun h hw=>by
 obtain⟨hl,he⟩:=abY Tryz.underlying56 h hw UInt8
 rw[show Tryz.prog.cellsOf 56=16 from by kernel_rfl]at hl
 obtain⟨l,nG,DS⟩:=Ip (p:=fun i (x:UInt8)=>_) he
 refine⟨oc fun i=>(l.getD i 0).toNat,?_,trivial⟩
 refine List.ext_getElem? fun i=> ?_
 rw[Array.getElem?_toList]
 rcases Nat.lt_or_ge i 16 with hi|hi
 ·
  have hx:l[i]? =some (l.getD i 0):=n9 (by omega)
  have h1:=congrArg (·[0]?) (DS i _ hx).1
  simp only[List.getElem?_take,List.getElem?_drop]at h1
  rw[if_pos (by decide),show i*Deep.c UInt8+0=i from Nat.mul_one i]at h1
  have h3:some (Value.int .u8 (l.getD i 0).toNat)=_:=h1
  have e8:(l.getD i 0).toNat%2^8=(l.getD i 0).toNat:=Nat.mod_eq_of_lt (l.getD i 0).toNat_lt
  show(cn _)[i]? =_
  rw[lH _ _ hi,yP _ _ hi,e8,←h3]
 ·
  show(cn _)[i]? =_
  rw[Jl _ _ hi,List.getElem?_eq_none (by omega)]⟩
instance ajK:iY Tryz.prog 65 cU:=⟨by kernel_rfl,fun h hw=>by
 obtain⟨hl,x0,h0,-⟩:=oQ Tryz.underlying65 h hw (i:=0) (tf:=3) (off:=0) rfl Int
 obtain⟨-,x1,h1,-⟩:=oQ Tryz.underlying65 h hw (i:=1) (tf:=3) (off:=1) rfl Int
 obtain⟨-,x2,h2,-⟩:=oQ Tryz.underlying65 h hw (i:=2) (tf:=56) (off:=2) rfl Key
 refine⟨⟨x0,x1,x2⟩,?_,trivial⟩
 refine Eq.trans ?_ (abZ (a:=1) (b:=1) (c:=16) (hl.trans (by kernel_rfl)))
 rw[show(Deep.cells (⟨x0,x1,x2⟩:cU)).toList=(Deep.cells x0).toList++(Deep.cells x1).toList++(Deep.cells x2).toList from by show(c5 _).toList=_;unfold c5;rw[Array.toList_append];rfl,h0,h1,h2]
 rfl⟩
instance ajL:iY Tryz.prog 68 Rt:=⟨by kernel_rfl,fun h hw=>by
 obtain⟨hl,x0,h0,-⟩:=oQ Tryz.underlying68 h hw (i:=0) (tf:=65) (off:=0) rfl cU
 obtain⟨-,x1,h1,-⟩:=oQ Tryz.underlying68 h hw (i:=1) (tf:=66) (off:=18) rfl UInt16
 refine⟨⟨x0,x1⟩,?_,trivial⟩
 refine Eq.trans ?_ (Av (a:=18) (b:=1) (hl.trans (by kernel_rfl)))
 rw[show(Deep.cells (⟨x0,x1⟩:Rt)).toList=(Deep.cells x0).toList++(Deep.cells x1).toList from by show(ax _).toList=_;unfold ax;rw[Array.toList_append];rfl,h0,h1]
 rfl⟩
end Go.Proofs.YtaipiecplldinaaGreat
namespace Go.ay
open Go.RowKit Go.Kb
instance (priority:=high) ajM:Deep Int:=Deep.flat DT 1
open Go.RowKit Go.Kb
instance (priority:=high) ajN:Deep Bool:=Deep.flat Ax 1
end Go.ay
namespace Go.Proofs.YtaipiecplldinaaGreat
open Go.ay Go.Kb
open Go.ChangeShapes Go.WideShapes Go.ChangeAt Go.RowKit
instance ajO:iY Tryz.prog 94 Ft:=⟨by kernel_rfl,fun h hw=>by
 obtain⟨hl,x0,h0,-⟩:=oQ Tryz.underlying94 h hw (i:=0) (tf:=3) (off:=0) rfl Int
 obtain⟨-,x1,h1,-⟩:=oQ Tryz.underlying94 h hw (i:=1) (tf:=4) (off:=1) rfl Bool
 obtain⟨-,x2,h2,-⟩:=oQ Tryz.underlying94 h hw (i:=2) (tf:=4) (off:=2) rfl Bool
 obtain⟨-,x3,h3,-⟩:=oQ Tryz.underlying94 h hw (i:=3) (tf:=5) (off:=3) rfl UInt8
 refine⟨⟨x0,x1,x2,x3⟩,?_,trivial⟩
 refine Eq.trans ?_ (ab0 (a:=1) (b:=1) (c:=1) (d:=1) (hl.trans (by kernel_rfl)))
 rw[show(Deep.cells (⟨x0,x1,x2,x3⟩:Ft)).toList=(Deep.cells x0).toList++(Deep.cells x1).toList++(Deep.cells x2).toList++(Deep.cells x3).toList from rfl,h0,h1,h2,h3]
 rfl⟩
instance ajP:iY Tryz.prog 23 (Sl Ft):=th Tryz.underlying23 (by kernel_rfl) (by decide) (by kernel_rfl)
open Go.ay Go.Kb
open Go.ChangeShapes Go.WideShapes Go.ChangeAt Go.RowKit
open Go.ay Go.Kb
instance (priority:=high) ajQ:Deep Bool:=Deep.flat Ax 1
instance ajR:iY Tryz.prog 91 Ch:=⟨by kernel_rfl,fun h hw=>by
 obtain⟨hl,x0,h0,-⟩:=oQ Tryz.underlying91 h hw (i:=0) (tf:=68) (off:=0) rfl Rt
 obtain⟨-,x1,h1,-⟩:=oQ Tryz.underlying91 h hw (i:=1) (tf:=4) (off:=19) rfl Bool
 refine⟨⟨x0,x1⟩,?_,trivial⟩
 refine Eq.trans ?_ (Av (a:=19) (b:=1) (hl.trans (by kernel_rfl)))
 rw[show(Deep.cells (⟨x0,x1⟩:Ch)).toList=(Deep.cells x0).toList++(Deep.cells x1).toList from by show(fU _).toList=_;unfold fU;rw[Array.toList_append];rfl,h0,h1]
 rfl⟩
instance ajS:iY Tryz.prog 76 (Sl Ch):=th Tryz.underlying76 (by kernel_rfl) (by decide) (by kernel_rfl)
open Go.ay Go.Kb
open Go.ChangeShapes Go.WideShapes Go.ChangeAt Go.RowKit
instance ajT:iY Tryz.prog 78 pQ:=⟨by kernel_rfl,fun h hw=>by
 obtain⟨hl,x0,h0,g0⟩:=oQ Tryz.underlying78 h hw (i:=0) (tf:=76) (off:=0) rfl (Sl Ch)
 obtain⟨-,x1,h1,g1⟩:=oQ Tryz.underlying78 h hw (i:=1) (tf:=23) (off:=1) rfl (Sl Ft)
 refine⟨⟨x0,x1⟩,?_,⟨g0,g1⟩⟩
 refine Eq.trans ?_ (Av (a:=1) (b:=1) (hl.trans (by kernel_rfl)))
 rw[show(Deep.cells (⟨x0,x1⟩:pQ)).toList=(Deep.cells x0).toList++(Deep.cells x1).toList from rfl,h0,h1]
 rfl⟩
instance ajU:iY Tryz.prog 74 (Sl pQ):=th Tryz.underlying74 (by kernel_rfl) (by decide) (by kernel_rfl)
open Go.ay Go.Kb Go.ChangeShapes Go.WideShapes Go.ChangeAt Go.RowKit
theorem Tryz.own:ownKnob Tryz.prog.godebug=none:=by kernel_rfl
theorem Tryz.laidOut:laidOutB Tryz.prog=true:=by kernel_rfl
set_option maxRecDepth 100000 in
theorem acb{H:Type}{enc:TypeId×Value→H}(W:World)(base:Nat)(vs:List Value)(hl:vs.length=6)(h: ∀(j:Nat) t v,Tryz.f5.params[j]? =some t→vs[j]? =some v→Arg H enc Tryz.prog W base t v):
  Calls Tryz.prog 5 vs.toArray W fun e W'=>e= .returned (.bool true)∧Mem W [] W':=by
 rw[Tryz.params5]at h
 obtain⟨v0,v1,v2,v3,v4,v5,rfl⟩:=PH hl
 obtain⟨x0,rfl⟩:=PI (t:=5) Tryz.underlying5 (h 0 5 v0 rfl rfl).ok
 obtain⟨x1,rfl⟩:=PI (t:=5) Tryz.underlying5 (h 1 5 v1 rfl rfl).ok
 obtain⟨x2,rfl,g2⟩:=(h 2 23 v2 rfl rfl).sl Tryz.underlying23 Ft
 obtain⟨x3,rfl,g3⟩:=(h 3 74 v3 rfl rfl).sl Tryz.underlying74 pQ
 obtain⟨x4,rfl,-⟩:=(h 4 56 v4 rfl rfl).agg (inferInstance:fY Tryz.prog 56 _) Key
 obtain⟨x5,rfl,b5⟩:=abU (t:=3) Tryz.underlying3 (h 5 3 v5 rfl rfl).ok
 exact abH W x0 x1 x2.sv x2.xs x3 x4 x5 g2.1 g3
set_option maxRecDepth 100000 in
theorem acd(os:Os)(started:os.Started)(H:Type)(enc:TypeId×Value→H):
  ReturnsInHanded {} Tryz.checked os 5 .any (Rows.fibAllSpec.pre6 enc Tryz.prog Tryz.f5 Rows.fibAllRow.domain false) (Rows.fibAllSpec.post enc Tryz.prog Tryz.f5 false true false false):=
 ab6 (C:=Tryz.checked) Tryz.own started (by kernel_rfl) Tryz.func5
  (ChangeSpec.witness6 (enc:=enc) (C:=Tryz.checked) false ⟨#[],#[.int .u8 0, .int .u8 0, .slice none 0 0, .slice none 0 0, .agg #[.int .u8 0, .int .u8 0, .int .u8 0, .int .u8 0, .int .u8 0, .int .u8 0, .int .u8 0, .int .u8 0, .int .u8 0, .int .u8 0, .int .u8 0, .int .u8 0, .int .u8 0, .int .u8 0, .int .u8 0, .int .u8 0], .int .i64 0],[]⟩ 24 (by kernel_rfl) (by kernel_rfl) (by kernel_rfl) (by kernel_rfl))
  Tryz.laidOut (by kernel_rfl) rfl Tryz.underlying4 rfl (fun ds hd=>by obtain⟨d0,d1,d2,d3,d4,d5,rfl⟩:=PH (hd.trans (by kernel_rfl));rfl)
  (fun W base vs hl h=>acb W base vs (hl.trans (by kernel_rfl)) h)
theorem fibAll_holds:Rows.FibAllSaid:=
 OpenClaim.holds_of_wide 5 Tryz.f5 rfl rfl rfl rfl rfl rfl rfl ⟨rfl,rfl,rfl,rfl,rfl⟩ rfl rfl rfl rfl rfl (by kernel_rfl) Tryz.func5 (by kernel_rfl)
  (of_decide_eq_true (by kernel_rfl)) (by unfold Func.isWrapper;first|(rw[if_pos (by decide+kernel)];kernel_rfl)|(rw[if_neg (by decide+kernel)];exact⟨rfl,rfl⟩))
  (fun os started H enc _=>acd os started H enc)
end Go.Proofs.YtaipiecplldinaaGreat
