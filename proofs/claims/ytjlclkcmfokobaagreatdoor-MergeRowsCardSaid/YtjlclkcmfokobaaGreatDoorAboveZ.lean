/- The plain law of what stands above what: of each block the nearest one above it, moved up till nothing changes. -/
import Derived.Test.YtjlclkcmfokobaaGreatDoorLeafQZ
import Derived.BigQuiet
import Derived.Deep.QuietTactic
import Derived.Deep.LoopGhost
import Derived.Test.YtjlclkcmfokobaaGreatDoorShelfZ
import Derived.Test.YtjlclkcmfokobaaGreatDoorZedZ
import Derived.Laws.CopyOwn
import Derived.WalkKit
namespace Go.Proofs.YtjlclkcmfokobaaGreatDoor
inductive Anc (N:Nat→Option Nat) (x:Nat):Nat→Prop
 |refl:Anc N x x
 |up {b p:Nat}:b≠0→N b=some p→Anc N x p→Anc N x b
inductive YaZ (Pr:Nat→Nat→Prop) (d:Nat):Nat→Prop
 |start:d≠0→YaZ Pr d 0
 |step {a b:Nat}:YaZ Pr d a→Pr a b→b≠d→YaZ Pr d b
structure GOk (R:Nat→Prop) (pl:Nat→Nat) (Pr:Nat→Nat→Prop):Prop where
 r0:R 0
 at0:pl 0=0
 inj:∀{a b},R a→R b→pl a=pl b→a=b
 clo:∀{a b},R a→Pr a b→R b
 fwd:∀{b},R b→b≠0→∃a,R a∧Pr a b∧pl a<pl b
structure TOk (R:Nat→Prop) (pl:Nat→Nat) (N:Nat→Option Nat):Prop where
 zero:N 0≠none
 up:∀{b p},b≠0→N b=some p→R b∧R p∧pl p<pl b∧N p≠none
section
variable {R:Nat→Prop} {pl:Nat→Nat} {Pr:Nat→Nat→Prop} {N N':Nat→Option Nat} {a b c d j p u v x y:Nat}
theorem Anc.trans(h:Anc N x y)(h2:Anc N y b):Anc N x b:=by
 induction h2 with
 |refl=>exact h
 |up h0 hN _ ih=>exact .up h0 hN ih
theorem Anc.inv(h:Anc N x b):x=b∨b≠0∧∃p,N b=some p∧Anc N x p:=by
 cases h with
 |refl=>exact .inl rfl
 |up h0 hN h=>exact .inr ⟨h0,_,hN,h⟩
theorem Anc.of0(h:Anc N x 0):x=0:=by
 rcases h.inv with h|⟨h,-⟩
 · exact h
 · exact absurd rfl h
theorem TOk.rr(g:GOk R pl Pr)(t:TOk R pl N)(h:N b≠none):R b:=by
 by_cases h0:b=0
 · subst h0;exact g.r0
 · cases hN:N b with
   |none=>exact absurd hN h
   |some p=>exact(t.up h0 hN).1
theorem TOk.anc(t:TOk R pl N)(h:Anc N x b):(x=b∨pl x<pl b)∧(N b≠none→N x≠none):=by
 induction h with
 |refl=>exact⟨.inl rfl,id⟩
 |up h0 hN _ ih=>
  have:=t.up h0 hN;refine⟨.inr ?_,fun _=>ih.2 this.2.2.2⟩;rcases ih.1 with e|e
  · rw[e];exact this.2.2.1
  · exact ZO
theorem TOk.le(t:TOk R pl N)(h:Anc N x b):pl x≤pl b:=by
 rcases(t.anc h).1 with e|e
 · rw[e];exact Nr _
 · exact ZO
theorem TOk.lin(t:TOk R pl N)(h:Anc N x b)(h2:Anc N y b)(hl:pl x≤pl y):Anc N x y:=by
 induction h2 with
 |refl=>exact h
 |@up b p h0 hN h2 ih=>
  rcases h.inv with e|⟨_,q,hq,h3⟩
  · subst e
    have:=t.le h2;have:=(t.up h0 hN).2.2.1;omega
  · rw[hN]at hq
    obtain rfl:=Option.some.inj hq;exact ih h3
theorem TOk.root(t:TOk R pl N):∀(n b:Nat),pl b≤n→N b≠none→Anc N 0 b
 |n,b,hn,hb=>by
  by_cases h0:b=0
  · subst h0;exact .refl
  · cases hN:N b with
    |none=>exact absurd hN hb
    |some p=>
     have:=t.up h0 hN
     match n,hn with
     |0,hn=>omega
     |n+1,hn=>exact .up h0 hN (TOk.root t n p ZO this.2.2.2)
theorem TOk.climb(t:TOk R pl N)(hl:pl b<pl a)(h0:a≠0)(hN:N a=some p):(Anc N x p∧Anc N x b)↔(Anc N x a∧Anc N x b):=by
 constructor
 · exact fun h=>⟨.up h0 hN h.1,h.2⟩
 · rintro⟨h1,h2⟩
   refine⟨?_,h2⟩;rcases h1.inv with e|⟨_,q,hq,h3⟩
   · subst e
     have:=t.le h2;omega
   · rw[hN]at hq
     obtain rfl:=Option.some.inj hq;exact h3
def Ych(R:Nat→Prop)(Pr:Nat→Nat→Prop)(N:Nat→Option Nat)(b v:Nat):Prop:=∀x,Anc N x v↔∀a,R a→Pr a b→N a≠none→Anc N x a
structure QInv (R:Nat→Prop) (pl:Nat→Nat) (Pr:Nat→Nat→Prop) (N:Nat→Option Nat) (j:Nat):Prop where
 tok:TOk R pl N
 done:∀{b},R b→pl b<j→N b≠none
 all:(∀{b},R b→N b≠none)∨∀{b},N b≠none→pl b<j
 F:∀{b p a x},b≠0→N b=some p→R a→Pr a b→pl a<pl b→(pl b<j∨j≤pl x)→Anc N x p→Anc N x a
 G:∀{b p x},b≠0→N b=some p→(∀a,R a→Pr a b→N a≠none→Anc N x a)→Anc N x p
 S:∀{b d},N b≠none→¬YaZ Pr d b→Anc N d b
theorem QInv.start(g:GOk R pl Pr)(hz:N 0=some 0)(hn:∀b,b≠0→N b=none):QInv R pl Pr N 1:=by
 have hno:∀{b p:Nat},b≠0→N b=some p→False:=fun h0 h=>by rw[hn _ h0]at h;cases h
 refine⟨⟨by rw[hz];simp,fun h0 h=>(hno h0 h).elim⟩,fun {b} hr hb=>?_,.inr fun {b} hb=>?_,fun h0 h=>(hno h0 h).elim,fun h0 h=>(hno h0 h).elim,fun {b d} hb hd=>?_⟩
 · obtain rfl:b=0:=g.inj hr g.r0 (by rw[g.at0];omega)
   rw[hz];simp
 · by_cases h0:b=0
   · subst h0;rw[g.at0];omega
   · exact absurd (hn b h0) hb
 · by_cases h0:b=0
   · subst h0
     by_cases e:d=0
     · subst e;exact .refl
     · exact absurd (.start e) hd
   · exact absurd (hn b h0) hb
theorem QInv.next(h:QInv R pl Pr N j)(hj:∀b,R b→pl b<j):QInv R pl Pr N 1:=
 ⟨h.tok,fun hr _=>h.done hr (hj _ hr),.inl fun hr=>h.done hr (hj _ hr),fun h0 hN hr hp hl _ ha=>h.F h0 hN hr hp hl (.inl (hj _ (h.tok.up h0 hN).1)) ha,h.G,h.S⟩
theorem QInv.keep(g:GOk R pl Pr)(h:QInv R pl Pr N j)(hb:R b)(hj:pl b=j)(h0:b≠0)(hN:N b=some v)(hm:Ych R Pr N b v):QInv R pl Pr N (j+1):=by
 have e:∀{c},R c→pl c<j+1→¬pl c<j→c=b:=fun hr h1 h2=>g.inj hr hb ZO
 refine⟨h.tok,fun {c} hr hl=>?_,?_,fun {c q a x} hc hq hr hp hl hx ha=>?_,h.G,h.S⟩
 · by_cases h1:pl c<j
   · exact h.done hr h1
   · rw[e hr hl h1,hN];simp
 · rcases h.all with h1|h1
   · exact .inl h1
   · exact .inr fun hc=>by have:=h1 hc;omega
 · by_cases hcb:c=b
   · subst hcb
     rw[hN]at hq;obtain rfl:=Option.some.inj hq;exact(hm x).1 ha a hr hp (h.done hr ZO)
   · refine h.F hc hq hr hp hl ?_ ha
     rcases hx with hx|hx
     · by_cases h1:pl c<j
       · exact .inl h1
       · exact absurd (e (h.tok.up hc hq).1 hx h1) hcb
     · exact .inr ZO
structure Move (R:Nat→Prop) (pl:Nat→Nat) (Pr:Nat→Nat→Prop) (N N':Nat→Option Nat) (j b v:Nat):Prop where
 h:QInv R pl Pr N j
 hb:R b
 hj:pl b=j
 h0:b≠0
 hm:Ych R Pr N b v
 hv:N v≠none
 hvl:pl v<pl b
 hb':N' b=some v
 hc':∀c,c≠b→N' c=N c
theorem Move.higher(M:Move R pl Pr N N' j b v)(hN:N b=some u):Anc N v u:=M.h.G M.h0 hN ((M.hm v).1 .refl)
theorem Move.U1(M:Move R pl Pr N N' j b v)(ha:Anc N' x c):Anc N x c∨N b=none∧c=b∧Anc N x v:=by
 obtain⟨h,hb,hj,h0,hm,hv,hvl,hb',hc'⟩:=id M
 induction ha with
 |refl=>exact .inl .refl
 |@up c q hc hq _ ih=>
  by_cases e:c=b
  · subst e
    rw[hb']at hq;obtain rfl:=Option.some.inj hq;rcases ih with ih|⟨_,e,_⟩
    · cases hN:N c with
      |none=>exact .inr ⟨rfl,rfl,ih⟩
      |some u=>exact .inl (.up h0 hN (ih.trans (Move.higher M hN)))
    · subst e;omega
  · rw[hc' c e]at hq
    rcases ih with ih|⟨hn,e2,_⟩
    · exact .inl (.up hc hq ih)
    · subst e2
      exact absurd hn (h.tok.up hc hq).2.2.2
theorem Move.U1'(M:Move R pl Pr N N' j b v)(ha:Anc N' x c)(hc:N c≠none):Anc N x c:=by
 obtain⟨h,hb,hj,h0,hm,hv,hvl,hb',hc'⟩:=id M;rcases Move.U1 M ha with e|⟨e,rfl,_⟩
 · exact e
 · exact absurd e hc
theorem Move.U2a(M:Move R pl Pr N N' j b v)(ha:Anc N x c)(hx:pl b≤pl x):Anc N' x c:=by
 obtain⟨h,hb,hj,h0,hm,hv,hvl,hb',hc'⟩:=id M
 induction ha with
 |refl=>exact .refl
 |@up c q hc hq ha ih=>
  by_cases e:c=b
  · subst e
    have:=h.tok.le ha;have:=(h.tok.up hc hq).2.2.1;omega
  · exact .up hc (by rw[hc' c e];exact hq) ih
theorem Move.U2b(M:Move R pl Pr N N' j b v)(ha:Anc N x c)(hx:¬Anc N b c):Anc N' x c:=by
 obtain⟨h,hb,hj,h0,hm,hv,hvl,hb',hc'⟩:=id M
 induction ha with
 |refl=>exact .refl
 |@up c q hc hq ha ih=>
  by_cases e:c=b
  · subst e
    exact absurd .refl hx
  · exact .up hc (by rw[hc' c e];exact hq) (ih fun h=>hx (.up hc hq h))
theorem Move.U2c(M:Move R pl Pr N N' j b v)(hl:pl c<pl b)(hc:N c≠none):Anc N' x c↔Anc N x c:=
 ⟨fun ha=>Move.U1' M ha hc,fun ha=>Move.U2b M ha fun hx=>by have:=M.h.tok.le hx;omega⟩
theorem Move.tok'(g:GOk R pl Pr)(M:Move R pl Pr N N' j b v):TOk R pl N':=by
 obtain⟨h,hb,hj,h0,hm,hv,hvl,hb',hc'⟩:=id M;have hne:∀c,N c≠none→N' c≠none:=fun c hc=>by
  by_cases e:c=b
  · subst e;rw[hb'];simp
  · rw[hc' c e];exact hc
 refine⟨hne 0 h.tok.zero,fun {c p} hc hq=>?_⟩
 by_cases e:c=b
 · subst e
   rw[hb']at hq;obtain rfl:=Option.some.inj hq;exact⟨hb,h.tok.rr g hv,hvl,hne _ hv⟩
 · rw[hc' c e]at hq
   have:=h.tok.up hc hq;exact⟨this.1,this.2.1,this.2.2.1,hne _ this.2.2.2⟩
theorem Move.far(g:GOk R pl Pr)(M:Move R pl Pr N N' j b v)(hd:pl d<pl b)(hA:YaZ Pr d b):∀(n c:Nat),pl c≤n→N c≠none→Anc N b c→YaZ Pr d c
 |n,c,hn,hc,ha=>by
  rcases ha.inv with e|⟨hc0,q,hq,ha'⟩
  · subst e;exact hA
  · have hj:=M.hj
    have hu:=M.h.tok.up hc0 hq;have hbq:=M.h.tok.le ha';have hall:∀{b},R b→N b≠none:=by
     rcases M.h.all with h1|h1
     · exact h1
     · have:=h1 hc;omega
    obtain⟨a,hr,hp,hl⟩:=g.fwd hu.1 hc0;have hF:=M.h.F hc0 hq hr hp hl (.inr ZO) ha';have hcd:c≠d:=fun e=>by subst e;omega
    match n,hn with
    |0,hn=>omega
    |n+1,hn=>exact .step (Move.far g M hd hA n a ZO (hall hr) hF) hp hcd
theorem Move.move(g:GOk R pl Pr)(M:Move R pl Pr N N' j b v):QInv R pl Pr N' (j+1):=by
 obtain⟨h,hb,hj,h0,hm,hv,hvl,hb',hc'⟩:=id M;have hne:∀{c},N c≠none→N' c≠none:=fun {c} hc=>by
  by_cases e:c=b
  · subst e;rw[hb'];simp
  · rw[hc' c e];exact hc
 have e1:∀{c},R c→pl c<j+1→¬pl c<j→c=b:=fun hr h1 h2=>g.inj hr hb ZO
 have U1':∀{x c},Anc N' x c→N c≠none→Anc N x c:=fun ha hc=>Move.U1' M ha hc
 have U2a:∀{x c},Anc N x c→pl b≤pl x→Anc N' x c:=fun ha hx=>Move.U2a M ha hx
 have U2b:∀{x c},Anc N x c→¬Anc N b c→Anc N' x c:=fun ha hx=>Move.U2b M ha hx
 have U2c:∀{x c},pl c<pl b→N c≠none→(Anc N' x c↔Anc N x c):=fun hl hc=>Move.U2c M hl hc
 have tok':=Move.tok' g M;have later:∀{c},c≠b→N c≠none→¬pl c<j→pl b<pl c∧∀{b},R b→N b≠none:=fun {c} hc hn hl=>by
  have hr:=h.tok.rr g hn;have:pl c≠pl b:=fun e=>hc (g.inj hr hb e)
  refine⟨ZO,?_⟩;rcases h.all with h1|h1
  · exact h1
  · exact absurd (h1 hn) hl
 have Sb:∀{d},¬YaZ Pr d b→Anc N' d b:=fun {d} hd=>by
  by_cases e:d=b
  · subst e;exact .refl
  · refine .up h0 hb' ((U2c hvl hv).2 ((hm d).2 fun a hr hp hn=>h.S hn fun hA=>hd (.step hA hp (fun e2=>e e2.symm))))
 refine⟨tok',fun {c} hr hl=>?_,?_,fun {c q a x} hc hq hr hp hl hx ha=>?_,fun {c q x} hc hq hx=>?_,fun {c d} hc hd=>?_⟩
 · by_cases h1:pl c<j
   · exact hne (h.done hr h1)
   · rw[e1 hr hl h1,hb'];simp
 · rcases h.all with h1|h1
   · exact .inl fun hr=>hne (h1 hr)
   · refine .inr fun {c} hc=>?_
     by_cases e:c=b
     · subst e;omega
     · rw[hc' c e]at hc
       have:=h1 hc;omega
 · by_cases hcb:c=b
   · subst hcb
     rw[hb']at hq;obtain rfl:=Option.some.inj hq;have hna:=h.done hr (show pl a<j from ZO);exact(U2c hl hna).2 ((hm x).1 ((U2c hvl hv).1 ha) a hr hp hna)
   · rw[hc' c hcb]at hq
     have hu:=h.tok.up hc hq
     by_cases h1:pl c<j
     · have hna:=h.done hr (show pl a<j from ZO)
       exact(U2c ZO hna).2 (h.F hc hq hr hp hl (.inl h1) ((U2c ZO hu.2.2.2).1 ha))
     · obtain⟨h2,h3⟩:=later hcb (by rw[hq];simp) h1
       have hjx:j+1≤pl x:=by
        rcases hx with hx|hx
        · exact absurd (e1 hu.1 hx h1) hcb
        · exact hx
       exact U2a (h.F hc hq hr hp hl (.inr ZO) (U1' ha hu.2.2.2)) ZO
 · by_cases hcb:c=b
   · subst hcb
     rw[hb']at hq;obtain rfl:=Option.some.inj hq;exact(U2c hvl hv).2 ((hm x).2 fun a hr hp hn=>U1' (hx a hr hp (hne hn)) hn)
   · rw[hc' c hcb]at hq
     have hu:=h.tok.up hc hq;have hxq:Anc N x q:=h.G hc hq fun a hr hp hn=>U1' (hx a hr hp (hne hn)) hn
     by_cases hbq:Anc N b q
     · by_cases hxb:pl b≤pl x
       · exact U2a hxq hxb
       · have hle:=h.tok.le hbq
         obtain⟨h2,h3⟩:=later hcb (by rw[hq];simp) ZO;obtain⟨a,hr,hp,hl⟩:=g.fwd hu.1 hc;have hba:=U2a (h.F hc hq hr hp hl (.inr ZO) hbq) (Nr _);have hxa:=hx a hr hp (hne (h3 hr));exact(tok'.lin hxa hba ZO).trans (U2a hbq (Nr _))
     · exact U2b hxq hbq
 · by_cases hcb:c=b
   · subst hcb;exact Sb hd
   · rw[hc' c hcb]at hc
     have hdc:=h.S hc hd
     by_cases hbc:Anc N b c
     · by_cases hxb:pl b≤pl d
       · exact U2a hdc hxb
       · exact(Sb fun hA=>hd (Move.far g M ZO hA _ c (Nr _) hc hbc)).trans (U2a hbc (Nr _))
     · exact U2b hdc hbc
theorem QInv.fin(g:GOk R pl Pr)(h:QInv R pl Pr N j)(hj:∀b,R b→pl b<j)(hm:∀b v,R b→b≠0→N b=some v→Ych R Pr N b v):R b→(Anc N d b↔¬YaZ Pr d b):=by
 intro hb;refine⟨fun ha hA=>?_,fun hd=>h.S (h.done hb (hj b hb)) hd⟩;have key:∀{c},YaZ Pr d c→R c∧¬Anc N d c:=by
  intro c hA
  induction hA with
  |start h0=>exact⟨g.r0,fun h=>h0 h.of0⟩
  |@step a c _ hp hc ih=>
   have hr:=g.clo ih.1 hp;refine⟨hr,fun h2=>?_⟩;rcases h2.inv with e|⟨hc0,q,hq,h3⟩
   · exact hc e.symm
   · exact ih.2 ((hm c q hr hc0 hq d).1 h3 a ih.1 hp (h.done ih.1 (hj a ih.1)))
 exact(key hA).2 ha
end
end Go.Proofs.YtjlclkcmfokobaaGreatDoor
namespace Go.Proofs.YtjlclkcmfokobaaGreatDoor
structure LvOk (R:Nat→Prop) (N V:Nat→Option Nat):Prop where
 zero:V 0=some 0
 up:∀{b k},b≠0→V b=some k→∃p i,N b=some p∧V p=some i∧k=i+1
 iff:∀{b},V b≠none↔R b
section
variable {R:Nat→Prop} {pl:Nat→Nat} {N V:Nat→Option Nat} {a b c d j k m p u v x y n:Nat}
theorem LvOk.up'(l:LvOk R N V)(t:TOk R pl N)(h0:b≠0)(hN:N b=some p):∃i,V p=some i∧V b=some (i+1):=by
 cases hb:V b with
 |none=>exact absurd hb (l.iff.2 (t.up h0 hN).1)
 |some k=>
  obtain⟨q,i,h1,h2,rfl⟩:=l.up h0 hb;rw[hN]at h1;obtain rfl:=Option.some.inj h1;exact⟨i,h2,rfl⟩
theorem Anc.lv(l:LvOk R N V)(t:TOk R pl N)(h:Anc N x b):∀{k},V b=some k→∃m,V x=some m∧(x=b∨m<k):=by
 induction h with
 |refl=>exact fun hb=>⟨_,hb,.inl rfl⟩
 |@up b q h0 hN _ ih=>
  intro k hb;obtain⟨i,h1,h2⟩:=l.up' t h0 hN;rw[hb]at h2;obtain rfl:=Option.some.inj h2;obtain⟨m,h3,h4⟩:=ih h1;refine⟨m,h3,.inr ?_⟩;rcases h4 with rfl|h4
  · rw[h1]at h3
    obtain rfl:=Option.some.inj h3;omega
  · exact ZO
theorem LvOk.step(ha:V a=some m)(hb:V b=some k)(hl:m<k)(h0:b≠0)(hN:N b=some p):Anc N a b↔Anc N a p:=by
 constructor
 · intro h
   rcases h.inv with e|⟨_,q,hq,h3⟩
   · subst e
     rw[ha]at hb;obtain rfl:=Option.some.inj hb;omega
   · rw[hN]at hq
     obtain rfl:=Option.some.inj hq;exact h3
 · exact fun h=>.up h0 hN h
theorem LvOk.stop(l:LvOk R N V)(t:TOk R pl N)(ha:V a=some m)(hb:V b=some k)(hl:k≤m):Anc N a b↔a=b:=by
 constructor
 · intro h
   obtain⟨m',h1,h2⟩:=h.lv l t hb;rw[ha]at h1;obtain rfl:=Option.some.inj h1;rcases h2 with e|h2
   · exact e
   · exact ZO
 · rintro rfl
   exact .refl
theorem LvOk.pos(l:LvOk R N V)(hb:V b=some k)(hk:0<k):b≠0:=by
 rintro rfl;rw[l.zero]at hb;have:=Option.some.inj hb;omega
open Classical in
noncomputable def Yfz (N:Nat→Option Nat) (b n:Nat):Nat:=((List.range n).filter fun a=>decide (a≠b∧Anc N a b)).length
theorem Yhl{p:Nat}:∀{n:Nat},p<n→∀(f:Nat→Bool),f p=false→((List.range n).filter fun a=>f a||decide (a=p)).length=((List.range n).filter f).length+1
 |0,hp,_,_=>by omega
 |n+1,hp,f,hf=>by
  rw[List.range_succ,List.filter_append,List.filter_append,List.length_append,List.length_append]
  by_cases e:p=n
  · subst e
    have:(List.range p).filter (fun a=>f a||decide (a=p))=(List.range p).filter f:=by
     refine List.filter_congr fun a ha=>?_
     have:a≠p:=by have:=List.mem_range.1 ha;omega
     simp[this]
    rw[this];simp[hf]
  · rw[Yhl ZO f hf]
    have:n≠p:=fun h=>e h.symm
    cases hfn:f n<;>simp[this,hfn]
theorem Ylw(t:TOk R pl N)(l:LvOk R N V)(hlt:∀b,R b→b<n):∀(k b:Nat),V b=some k→Yfz N b n=k
 |0,b,hb=>by
  unfold Yfz;rw[List.length_eq_zero_iff,List.filter_eq_nil_iff];intro a _ h;simp only[decide_eq_true_eq]at h;obtain⟨m,_,h2⟩:=h.2.lv l t hb;rcases h2 with e|e
  · exact h.1 e
  · exact ZO
 |k+1,b,hb=>by
  have h0:=l.pos hb ZO;obtain⟨p,i,hN,h1,hk⟩:=l.up h0 hb;obtain rfl:k=i:=by omega
  have ih:=Ylw t l hlt k p h1;have hu:=t.up h0 hN;unfold Yfz at ih ⊢;rw[← ih,← Yhl (hlt p hu.2.1) _ ZS];congr 1;refine List.filter_congr fun a _=>?_
  rw[Bool.eq_iff_iff];simp only[decide_eq_true_eq,Bool.or_eq_true];constructor
  · rintro⟨e,h⟩
    rcases h.inv with e2|⟨_,q,hq,h3⟩
    · exact absurd e2 e
    · rw[hN]at hq
      obtain rfl:=Option.some.inj hq
      by_cases e3:a=p
      · exact .inr e3
      · exact .inl ⟨e3,h3⟩
  · rintro(⟨e,h⟩|rfl)
    · exact⟨fun e2=>by subst e2;have:=t.le h;omega,.up h0 hN h⟩
    · exact⟨fun e2=>by subst e2;omega,.up h0 hN .refl⟩
end
end Go.Proofs.YtjlclkcmfokobaaGreatDoor
namespace Go.Proofs.YtjlclkcmfokobaaGreatDoor
open Go.RowKit
set_option maxRecDepth 100000
def YN:Option Nat→Int
 |none=>-1
 |some k=>k
def fnO(L:List (Option Nat))(b:Nat):Option Nat:=L.getD b none
def RowO(w:World)(g:Nat)(L:List (Option Nat)):Prop:=g<w.heap.size∧∀i,i<L.length→w.cell? ⟨g,i,none⟩=some (.int .i64 (YN (fnO L i)))
theorem RowO.below{w w':World}{g:Nat}{L:List (Option Nat)}(h:RowO w g L)(hb:Below w.heap.size w w'):RowO w' g L:=
 ⟨Nt h.1 hb.size,fun i hi=>(hb.cell (p:=⟨g,i,none⟩) h.1).trans (h.2 i hi)⟩
theorem RowO.at_{w:World}{g:Nat}{L:List (Option Nat)}(h:RowO w g L){i k:Nat}(hi:i<L.length)(hk:fnO L i=some k):w.cell? ⟨g,i,none⟩=some (.int .i64 (k:Int)):=by
 rw[h.2 i hi,hk];rfl
theorem YbD{B:Nat}{a w:World}(h:Below B a w)(n:Nat):Below B a (w.drewN n):=h.trans ⟨rfl,rfl,rfl,Nr _,fun _ _=>rfl⟩
theorem box2{w w':World}{x y:Value}{t:TypeId}(hb:Below (w.heap.size+1) (w.alloc (.cells #[x,y] t)) w') :
 w.heap.size<w'.heap.size∧w'.cell? ⟨w.heap.size,0,none⟩=some x∧w'.cell? ⟨w.heap.size,1,none⟩=some y:=by
 have hg:=heap_alloc_new w (.cells #[x,y] t);have hs:=hb.size;simp at hs;exact⟨hs,(hb.cell (p:=⟨w.heap.size,0,none⟩) (Nat.lt_succ_self _)).trans (cell_of_row _ _ 0 _ _ _ hg),(hb.cell (p:=⟨w.heap.size,1,none⟩) (Nat.lt_succ_self _)).trans (cell_of_row _ _ 1 _ _ _ hg)⟩
set_option maxHeartbeats 2000000 in
theorem Ylx{R:Nat→Prop}{pl:Nat→Nat}{w:World}{n gn ga:Nat}{L AT:List (Option Nat)}(hN:RowO w gn L)(hA:RowO w ga AT)(hLn:L.length=n)(hAn:AT.length=n)
 (t:TOk R pl (fnO L)) (hz:pl 0=0) (hin:∀a b,R a→R b→pl a=pl b→a=b) (hR:∀b,fnO L b≠none→R b∧b<n∧fnO AT b=some (pl b)) (a b:Nat) (ha:fnO L a≠none) (hb:fnO L b≠none) :
 Calls Tryz.prog 123 #[.agg #[.slice (some ⟨gn,0,none⟩) n n,.slice (some ⟨ga,0,none⟩) n n],.int .i64 (a:Int),.int .i64 (b:Int)] w fun e w'=>
  ∃m:Nat,e=.returned (.int .i64 (m:Int))∧fnO L m≠none∧(∀x,Anc (fnO L) x m↔Anc (fnO L) x a∧Anc (fnO L) x b)∧Below w.heap.size w w':=by
 have T:=Lh t;have HIN:=Lh hin;have HR:=Lh hR;have HZ:=Lh hz;have HN:=Lh hN;have HA:=Lh hA;have hgn:=hN.1;have hga:=hA.1;have hb0:=(Br w.heap.size w).alloc (Nr _) (.cells #[.slice (some ⟨gn,0,none⟩) n n,.slice (some ⟨ga,0,none⟩) n n] 171);have HAB:=Lh (And.intro ha hb);clear t hin hR hz hN hA ha hb;go_enter Tryz.func123,Tryz.ntmps123;go_wp2
 go_loopw[1,2] (fun v1 v2 wr=>∃a' b':Nat,v1=.int .i64 a'∧v2=.int .i64 b'∧Hid (fnO L a'≠none∧fnO L b'≠none∧∀x,(Anc (fnO L) x a'∧Anc (fnO L) x b')↔(Anc (fnO L) x a∧Anc (fnO L) x b))∧
  Below (w.heap.size+1) (w.alloc (.cells #[.slice (some ⟨gn,0,none⟩) n n,.slice (some ⟨ga,0,none⟩) n n] 171)) wr) (fun v1 v2 _=>pl (intOf v1).toNat+pl (intOf v2).toNat)
 case atStart=>exact⟨a,b,rfl,rfl,⟨HAB.out.1,HAB.out.2,fun _=>Iff.rfl⟩,Br _ _⟩
 case round=>as_aux_lemma=>
  obtain⟨a',b',rfl,rfl,HD,hb⟩:=hrel
  by_cases hab:a'=b'
  · subst hab
    go_wp2;go_ret;exact⟨a',rfl,HD.out.1,fun x=>⟨fun h=>(HD.out.2.2 x).1 ⟨h,h⟩,fun h=>((HD.out.2.2 x).2 h).1⟩,hb0.trans (hb.mono (Nat.le_succ _))⟩
  · have e0:((a':Int) !=(b':Int))=true:=by rw[bne_iff_ne];omega
    have HAB':=Lh hab;clear hab;go_wp2
    go_loopw[1] (fun v1 wr=>∃a2:Nat,v1=.int .i64 a2∧Hid (fnO L a2≠none∧(∀x,(Anc (fnO L) x a2∧Anc (fnO L) x b')↔(Anc (fnO L) x a∧Anc (fnO L) x b))∧(a2=a'∨pl a2<pl a'))∧
     Below (w.heap.size+1) (w.alloc (.cells #[.slice (some ⟨gn,0,none⟩) n n,.slice (some ⟨ga,0,none⟩) n n] 171)) wr) (fun v1 _=>pl (intOf v1).toNat)
    case atStart=>exact⟨a',rfl,⟨HD.out.1,HD.out.2.2,.inl rfl⟩,hb⟩
    case round=>as_aux_lemma=>
     clear hb;obtain⟨a2,rfl,HI,hb⟩:=hrel;obtain⟨ra,hal,hat⟩:=HR.out a2 HI.out.1;obtain⟨rb,hbl,hbt⟩:=HR.out b' HD.out.2.1;have hwb:Below w.heap.size w wr:=hb0.trans (hb.mono (Nat.le_succ _));have hc1:=(HA.out.below hwb).at_ ZO hat;have hc2:=(HA.out.below hwb).at_ ZO hbt;have hga':=Nt hga hwb.size;have hgn':=Nt hgn hwb.size;obtain⟨hq,q0,q1⟩:=box2 hb
     by_cases hlt:pl b'<pl a2
     · have hlt':(pl b':Int)<(pl a2:Int):=by omega
       have h0:a2≠0:=fun e=>by subst e;have:=HZ.out;omega
       cases hp:fnO L a2 with
       |none=>exact absurd hp HI.out.1
       |some p=>
        have hc3:=(HN.out.below hwb).at_ ZO hp;have HP:=Lh hp;have HLT:=Lh hlt;clear hp hlt hat hbt;go_wp2
        go_quiet (fail)
        go_wp2;go_roundw
        case rel=>
         have hu:=T.out.up h0 HP.out;exact⟨p,rfl,⟨hu.2.2.2,fun x=>(T.out.climb HLT.out h0 HP.out).trans (HI.out.2.1 x),.inr (by rcases HI.out.2.2 with e|e;(subst e;exact hu.2.2.1);omega)⟩,YbD hb _⟩
        case measure=>
         have hu:=T.out.up h0 HP.out;simp[intOf];omega
     · have hlt':¬(pl b':Int)<(pl a2:Int):=by omega
       have HLT:=Lh hlt;clear hlt hat hbt;go_wp2
       go_quiet (fail)
       go_wp2;clear hc2
       go_loopw[2] (fun v2 wr=>∃b2:Nat,v2=.int .i64 b2∧Hid (fnO L b2≠none∧(∀x,(Anc (fnO L) x a2∧Anc (fnO L) x b2)↔(Anc (fnO L) x a∧Anc (fnO L) x b))∧(b2=b'∨pl b2<pl b'))∧
        Below (w.heap.size+1) (w.alloc (.cells #[.slice (some ⟨gn,0,none⟩) n n,.slice (some ⟨ga,0,none⟩) n n] 171)) wr) (fun v2 _=>pl (intOf v2).toNat)
       case atStart=>exact⟨b',rfl,⟨HD.out.2.1,HI.out.2.1,.inl rfl⟩,YbD hb _⟩
       case round=>as_aux_lemma=>
        clear hb hwb hga' hgn' hq q0 q1 hc1 hbl rb hlt';obtain⟨b2,rfl,HJ,hb⟩:=hrel;obtain⟨ra,hal,hat⟩:=HR.out a2 HI.out.1;obtain⟨rb,hbl,hbt⟩:=HR.out b2 HJ.out.1;have hwb:Below w.heap.size w wr:=hb0.trans (hb.mono (Nat.le_succ _));have hc1:=(HA.out.below hwb).at_ ZO hat;have hc2:=(HA.out.below hwb).at_ ZO hbt;have hga':=Nt hga hwb.size;have hgn':=Nt hgn hwb.size;obtain⟨hq,q0,q1⟩:=box2 hb
        by_cases hlt:pl a2<pl b2
        · have hlt':(pl a2:Int)<(pl b2:Int):=by omega
          have h0:b2≠0:=fun e=>by subst e;have:=HZ.out;omega
          cases hp:fnO L b2 with
          |none=>exact absurd hp HJ.out.1
          |some p=>
           have hc3:=(HN.out.below hwb).at_ ZO hp;have HP:=Lh hp;have HLT2:=Lh hlt;clear hp hlt hat hbt;go_wp2
           go_quiet (fail)
           go_wp2;go_roundw
           case rel=>
            have hu:=T.out.up h0 HP.out;exact⟨p,rfl,⟨hu.2.2.2,fun x=>(And.comm.trans ((T.out.climb HLT2.out h0 HP.out).trans And.comm)).trans (HJ.out.2.1 x),.inr (by rcases HJ.out.2.2 with e|e;(subst e;exact hu.2.2.1);omega)⟩,YbD hb _⟩
           case measure=>
            have hu:=T.out.up h0 HP.out;simp[intOf];omega
        · have hlt':¬(pl a2:Int)<(pl b2:Int):=by omega
          have HLT2:=Lh hlt;clear hlt hat hbt;go_wp2
          go_quiet (fail)
          go_wp2;go_roundw
          case rel=>exact⟨a2,b2,rfl,rfl,⟨HI.out.1,HJ.out.1,HJ.out.2.1⟩,YbD hb _⟩
          case measure=>
           simp[intOf];have h1:=HLT.out;have h2:=HLT2.out;rcases HI.out.2.2 with e|e
           · subst e
             rcases HJ.out.2.2 with e2|e2
             · subst e2
               exact absurd (HIN.out _ _ ra rb ZO) HAB'.out
             · exact ZO
           · rcases HJ.out.2.2 with e2|e2
             · subst e2;omega
             · exact ZO
end Go.Proofs.YtjlclkcmfokobaaGreatDoor
namespace Go.Proofs.YtjlclkcmfokobaaGreatDoor
open Go.RowKit
def pz(n:Nat)(O:List Nat)(b:Nat):Nat:=pl n O b-1
structure GrOk (n:Nat) (O:List Nat) (P:Nat→List Nat):Prop where
 hd:∃r,O=0::r
 nod:O.Nodup
 lt:∀b∈O,b<n
 plt:∀b,∀a∈P b,a<n
 clo:∀{a b},a∈O→a∈P b→b∈O
 fwd:∀{b},b∈O→b≠0→∃a,a∈O∧a∈P b∧pl n O a<pl n O b
section
variable {n j k b c v:Nat} {O:List Nat} {P:Nat→List Nat} {L:List (Option Nat)}
theorem Yei(hn:O.Nodup)(hl:∀b∈O,b<n){i:Nat}(hi:i<O.length):pl n O O[i]=i+1:=Yd8 hn hl _ (Nr _) i hi hi
theorem Yp2(hb:b∉O):pl n O b=0:=by
 unfold pl;exact Ye4 _ (Nr _) (by rw[List.take_length];exact hb)
theorem YdB(g:GrOk n O P){i:Nat}(hi:i<O.length):pz n O (O.getD i 0)=i:=by
 rw[YL hi,pz,Yei g.nod g.lt hi];rfl
theorem GrOk.mem(g:GrOk n O P)(hb:b∈O):∃i,i<O.length∧O.getD i 0=b∧pz n O b=i:=by
 obtain⟨i,hi,rfl⟩:=List.mem_iff_getElem.1 hb;exact⟨i,hi,YL hi 0,by have:=YdB g hi;rwa [YL hi]at this⟩
theorem GrOk.gok(g:GrOk n O P):GOk (·∈O) (pz n O) (fun a b=>a∈P b):=by
 obtain⟨r,hr⟩:=g.hd;refine⟨by rw[hr];simp,?_,fun {a b} ha hb he=>?_,fun ha hp=>g.clo ha hp,fun {b} hb h0=>?_⟩
 · have:=YdB g (i:=0) (by rw[hr];simp)
   rw[show O.getD 0 0=0 by rw[hr];rfl]at this;exact this
 · obtain⟨i,hi,rfl,h1⟩:=g.mem ha
   obtain⟨k,hk,rfl,h2⟩:=g.mem hb;rw[h1,h2]at he;subst he;rfl
 · obtain⟨a,h1,h2,h3⟩:=g.fwd hb h0
   refine⟨a,h1,h2,?_⟩;obtain⟨i,hi,rfl⟩:=List.mem_iff_getElem.1 h1;have:=Yei g.nod g.lt hi;unfold pz;omega
def atO(n:Nat)(O:List Nat)(k:Nat):List (Option Nat):=(Yap n O k).map fun x=>if x=0 then none else some (x-1)
theorem YfA:(atO n O k).length=n:=by simp[atO,Yd7]
theorem Yly:atO n O 0=List.replicate n none:=by simp[atO,Yap]
theorem Ylz:atO n O (k+1)=(atO n O k).set (O.getD k 0) (some k):=by simp[atO,Yap,List.map_set]
theorem Yhm(hb:b<n):fnO (atO n O O.length) b=if pl n O b=0 then none else some (pz n O b):=by
 have hl:b<(Yap n O O.length).length:=by rw[Yd7];exact hb
 unfold fnO atO pz pl;simp[List.getD,hl]
def Best(N:Nat→Option Nat)(l:List Nat):Option Nat→Prop
 |none=>∀a∈l,N a=none
 |some v=>N v≠none∧(∃a∈l,N a≠none)∧∀x,Anc N x v↔∀a∈l,N a≠none→Anc N x a
section
variable {N:Nat→Option Nat} {l:List Nat} {o:Option Nat} {a m:Nat}
theorem Best.skip(h:Best N l o)(ha:N a=none):Best N (l++[a]) o:=by
 cases o with
 |none=>intro b hb;rcases List.mem_append.1 hb with hb|hb;exact h b hb;simp at hb;rw[hb];exact ha
 |some v=>
  obtain⟨h1,⟨c,h2,h3⟩,h4⟩:=h;refine⟨h1,⟨c,by simp[h2],h3⟩,fun x=>(h4 x).trans ⟨fun h b hb hn=>?_,fun h b hb hn=>h b (by simp[hb]) hn⟩⟩;rcases List.mem_append.1 hb with hb|hb
  · exact h b hb hn
  · simp at hb;subst hb;exact absurd ha hn
theorem Best.first(h:Best N l none)(ha:N a≠none):Best N (l++[a]) (some a):=by
 refine⟨ha,⟨a,ZS,ha⟩,fun x=>⟨fun hx b hb hn=>?_,fun hx=>hx a ZS ha⟩⟩;rcases List.mem_append.1 hb with hb|hb
 · exact absurd (h b hb) hn
 · simp at hb;subst hb;exact hx
theorem Best.more(h:Best N l (some v))(ha:N a≠none)(hm:N m≠none)(hx:∀x,Anc N x m↔Anc N x v∧Anc N x a):Best N (l++[a]) (some m):=by
 obtain⟨_,⟨c,h2,h3⟩,h4⟩:=h;refine⟨hm,⟨c,by simp[h2],h3⟩,fun x=>(hx x).trans ⟨fun h b hb hn=>?_,fun h=>⟨(h4 x).2 fun b hb hn=>h b (by simp[hb]) hn,h a ZS ha⟩⟩⟩;rcases List.mem_append.1 hb with hb|hb
 · exact(h4 x).1 h.1 b hb hn
 · simp at hb;subst hb;exact h.2
theorem Best.meets(h:Best N (P b) (some v))(hR:∀{b},N b≠none→b∈O):Ych (·∈O) (fun a b=>a∈P b) N b v:=
 fun x=>(h.2.2 x).trans ⟨fun h a _ hp hn=>h a hp hn,fun h a hp hn=>h a (hR hn) hp hn⟩
end
def wgt(n:Nat)(O:List Nat):Option Nat→Nat
 |none=>O.length
 |some p=>pz n O p
def phi(n:Nat)(O:List Nat)(L:List (Option Nat)):Nat:=(L.map (wgt n O)).sum
theorem Yhn:∀{L:List (Option Nat)} {b:Nat},b<L.length→phi n O (L.set b (some v))+wgt n O (L.getD b none)=phi n O L+pz n O v
 |[],b,h=>by simp at h
 |o::L,0,_=>by simp[phi,wgt];omega
 |o::L,b+1,h=>by
  have:=Yhn (L:=L) (b:=b) (by simpa using h);simp[phi]at this ⊢;omega
theorem Yc2(hb:b<L.length):fnO (L.set b (some v)) b=some v:=by simp[fnO,List.getD,hb]
theorem Yaz{o:Option Nat}(h:c≠b):fnO (L.set b o) c=fnO L c:=by
 unfold fnO;rw[List.getD,List.getElem?_set_ne (fun e=>h e.symm),← List.getD_eq_getElem?_getD]
def YaN(L:List (Option Nat)):List Value:=L.map fun o=>.int .i64 (YN o)
theorem YfB{o:Option Nat}:(YaN L).set b (.int .i64 (YN o))=YaN (L.set b o):=by simp[YaN,List.map_set]
theorem RowO.of_own{w:World}{B e g:Nat}(h:w.ownsRow B e 1 (.slice (some ⟨g,0,none⟩) n n) n (YaN L))(hl:L.length=n):RowO w g L:=by
 refine⟨(h.lt g rfl).2,fun i hi=>?_⟩;rw[h.cellAt i ZO];simp[YaN,fnO,List.getD,hi]
def NMid(n:Nat)(O:List Nat)(P:Nat→List Nat)(L:List (Option Nat))(j:Nat)(L':List (Option Nat))(m:Bool):Prop:=
 QInv (·∈O) (pz n O) (fun a b=>a∈P b) (fnO L') j∧L'.length=n∧fnO L' 0=some 0∧
 (m=false→L'=L∧∀b v,b∈O→b≠0→pz n O b<j→fnO L' b=some v→Ych (·∈O) (fun a b=>a∈P b) (fnO L') b v)∧(m=true→phi n O L'<phi n O L)
theorem NMid.keep{L':List (Option Nat)}{m:Bool}(g:GrOk n O P)(h:NMid n O P L j L' m)(hb:b∈O)(hj:pz n O b=j)(h0:b≠0)(hN:fnO L' b=some v)(hm:Ych (·∈O) (fun a b=>a∈P b) (fnO L') b v):NMid n O P L (j+1) L' m:=by
 obtain⟨q,h1,h2,h3,h4⟩:=h;refine⟨q.keep g.gok hb hj h0 hN hm,h1,h2,fun hf=>⟨(h3 hf).1,fun c u hc hc0 hl hu=>?_⟩,h4⟩
 by_cases e:pz n O c<j
 · exact(h3 hf).2 c u hc hc0 e hu
 · obtain rfl:c=b:=g.gok.inj hc hb ZO
   rw[hN]at hu;obtain rfl:=Option.some.inj hu;exact hm
theorem NMid.move{L':List (Option Nat)}{m:Bool}(g:GrOk n O P)(h:NMid n O P L j L' m)(hb:b∈O)(hj:pz n O b=j)(h0:b≠0)(hN:fnO L' b≠some v)(hm:Ych (·∈O) (fun a b=>a∈P b) (fnO L') b v)(hv:fnO L' v≠none)
 (hvl:pz n O v<pz n O b):NMid n O P L (j+1) (L'.set b (some v)) true:=by
 obtain⟨q,h1,h2,h3,h4⟩:=h;have hbl:b<L'.length:=by rw[h1];exact g.lt b hb
 have M:Move (·∈O) (pz n O) (fun a b=>a∈P b) (fnO L') (fnO (L'.set b (some v))) j b v:=⟨q,hb,hj,h0,hm,hv,hvl,Yc2 hbl,fun c hc=>Yaz hc⟩;refine⟨M.move g.gok,by rw[List.length_set,h1],by rw[Yaz (fun e=>h0 e.symm)];exact h2,(fun e=>by cases e),fun _=>?_⟩;have h5:=Yhn (n:=n) (O:=O) (v:=v) hbl;have h6:pz n O v<wgt n O (L'.getD b none):=by
  have h7:L'.getD b none=fnO L' b:=rfl;rw[h7];cases hu:fnO L' b with
  |none=>
   obtain⟨i,hi,h8,h9⟩:=g.mem (q.tok.rr g.gok hv);simp only[wgt];omega
  |some u=>
   have ha:=M.higher hu;rcases(q.tok.anc ha).1 with e|e
   · subst e;exact absurd hu hN
   · exact e
 cases m with
 |false=>
  obtain⟨rfl,_⟩:=h3 rfl;omega
 |true=>have:=h4 rfl;omega
end
end Go.Proofs.YtjlclkcmfokobaaGreatDoor
namespace Go.Proofs.YtjlclkcmfokobaaGreatDoor
open Go.RowKit
set_option maxRecDepth 100000
theorem YlA{w:World}{B e g n cap:Nat}{xs:List Value}(hB:B≤g)(h:w.heap[g]?=some (.cells xs.toArray e (0,0)))(hl:xs.length=n)(hc:cap=n)(hm:n≤1048576):w.ownsRow B e 1 (.slice (some ⟨g,0,none⟩) n cap) n xs:=by
 subst hl hc;exact⟨ZS,.inr ⟨g,xs.length,xs.toArray,rfl,hB,h,Nr _,by unfold maxLen;omega,ZS,ZS⟩⟩
theorem YlB{w:World}{B e g n:Nat}{xs:List Value}(h:w.ownsRow B e 1 (.slice (some ⟨g,0,none⟩) n n) n xs):B≤g∧w.heap[g]?=some (.cells xs.toArray e (0,0)):=by
 obtain⟨h1,h2⟩:=h;rcases h2 with⟨h2,_⟩|⟨g',cap,cur,hv,hg,hh,hn,hcap,hsz,htake⟩
 · cases h2
 · cases hv
   refine⟨hg,?_⟩;rw[hh];congr 2;rw[List.take_of_length_le (by simp[hsz])]at htake;rw[← htake]
def YaA(x:Int)(n k:Nat):List Value:=List.replicate k (.int .i64 x)++List.replicate (n-k) (.int .i64 0)
theorem YlC{x:Int}{n k:Nat}(h:k≤n):(YaA x n k).length=n:=by simp[YaA];omega
theorem Yho{w:World}{g off n k m dl dc sl sc:Nat}{x:Int}{ad:Addr}(hg:w.heap[g]?=some (.cells (YaA x n k).toArray 3 (0,0)))(hk:k≤n)(hm:m=min sl dl)(hkm:k+m≤n)(ho:off=k)(hsrc:∀j,j<m→w.cell? (ad.add j)=some (.int .i64 x)) :
 ∃w2,w2.heap[g]?=some (.cells (YaA x n (k+m)).toArray 3 (0,0))∧(∀B w0,Below B w0 w→B≤g→Below B w0 w2)∧
  (Builtin.copy_ #[23,23] 3 #[.slice (some ⟨g,off,none⟩) dl dc,.slice (some ad) sl sc]).run Tryz.prog w=.ok (.int .i64 (m:Int)) w2:=by
 subst ho;have hrun:=run_copy_row (P:=Tryz.prog) w 23 23 3 3 g off dl dc ad sl sc (YaA x n off).toArray 3 (List.replicate m (.int .i64 x)) Tryz.underlying23 ZK hg (by rw[List.length_replicate,hm])
  (fun j v hv=>by rw[List.getElem?_replicate]at hv;split at hv<;>simp at hv;subst hv;exact hsrc j ‹_›) (by simp[YlC hk];omega) (fun v hv=>by simp at hv;rw[hv.2];rfl)
 refine⟨_,?_,fun B w0 hb hB=>below_setRow hb hB _,by rw[hrun,List.length_replicate];rfl⟩;rw[setRow_heap w g _ _ 3 _ hg];have e1:(YaA x n off).take off=List.replicate off (.int .i64 x):=by simp[YaA]
 have e2:(YaA x n off).drop (off+m)=List.replicate (n-(off+m)) (.int .i64 0):=by
  simp[YaA,List.drop_append,Nat.sub_sub]
 rw[show(YaA x n off).toArray.toList=YaA x n off from rfl,e1,e2];congr 3;rw[YaA,← List.replicate_append_replicate]
set_option maxHeartbeats 2000000 in
theorem YfC{w:World}{b n:Nat}{x:Int}(hb:b<w.heap.size)(hx:w.cell? ⟨b,0,none⟩=some (.int .i64 x))(n1:1≤n)(n2:n≤64) :
 Calls Tryz.prog 94 #[.slice (some ⟨b,0,none⟩) 1 1,.int .i64 (n:Int)] w fun e w'=>∃g,e=.returned (.slice (some ⟨g,0,none⟩) n n)∧
  w'.ownsRow w.heap.size 3 1 (.slice (some ⟨g,0,none⟩) n n) n (List.replicate n (.int .i64 x))∧Below w.heap.size w w':=by
 obtain⟨ib,hib,hz0,hz1,hz2⟩:=info_parts (show(Tryz.prog.info? 3).map (fun i=>(i.zero,i.size,i.bytes))=some (some (.int .i64 0),1,8)from ZK);have hmul:∀w0:World,Calls Tryz.prog 124 #[.int .u64 1,.int .u64 (n:Int)] w0 fun e w'=>e=.returned (.tuple #[.int .u64 0,.int .u64 (n:Int)])∧w'=w0:=fun w0=>
  (Tryz.bits_Mul 1 n ZO ZO w0).mono fun e w' h=>⟨by rw[h.1,Nat.one_mul,Nat.div_eq_of_lt ZO,Nat.mod_eq_of_lt ZO];rfl,h.2⟩
 go_enter Tryz.func94,Tryz.ntmps94
 go_wp2_with(first
  |(go_at_call 124;refine(hmul _).mono ?_;rintro e w0 ⟨rfl,hw0⟩;subst w0)
  |(at_make;refine wpList_make_full _ rfl _ _ 23 rfl w.heap.size 3 ib _ 1 Tryz.underlying23 hib hz0 hz1 _ _ _ _ _ rfl rfl rfl rfl (by rw[hz2];omega) (by unfold maxLen;omega) ZO ?_;intro w1 hs1 hg1
    have hb1:Below w.heap.size w w1:=(Br _ _).grown hg1 (Nr _) (fun k hk=>by cases hk);have hh1:=(YlB hs1).2;rw[show(madeCells (Value.int IntKind.i64 0).cells (n*1)).toList=YaA x n 0 by simp[Value.cells,toList_madeCells_one,YaA]]at hh1
    obtain⟨w2,hh2,hb2,hrun⟩:=Yho (dl:=n) (dc:=n) (sl:=1) (sc:=1) (off:=0) (m:=1) (ad:=⟨b,0,none⟩) hh1 ZO ZO ZO rfl (fun j hj=>by
     obtain rfl:j=0:=by omega
     exact(hb1.cell (p:=⟨b,0,none⟩) hb).trans hx)
    replace hb2:=hb2 _ _ hb1 (Nr _)
    clear hs1 hg1 hh1 hb1))
 go_loopw[8] (fun v8 wr=>∃k:Nat,v8=.int .i64 k∧1≤k∧k≤n∧wr.heap[w.heap.size]?=some (.cells (YaA x n k).toArray 3 (0,0))∧Below w.heap.size w wr) (fun v8 _=>n-(intOf v8).toNat)
 case atStart=>exact⟨1,rfl,ZO,ZO,hh2,hb2⟩
 case round=>as_aux_lemma=>
  clear hh2 hb2 hrun;obtain⟨k,rfl,hk1,hk2,hh,hb⟩:=hrel
  by_cases hlt:k<n
  · obtain⟨w3,hh3,hb3,hrun3⟩:=Yho (w:=wr.drew) (dl:=n-k) (dc:=n-k) (sl:=k) (sc:=n) (off:=k) (m:=min k (n-k)) (ad:=⟨w.heap.size,0,none⟩) hh ZO rfl ZO rfl (fun j hj=>by
     have:=cell_of_row wr.drew _ j _ _ _ hh;rw[Addr.add_lit,Nat.zero_add,this]
     simp[YaA,List.getElem?_append,show j<k from ZO])
    go_wp2_with fail;obtain⟨S0,hS0⟩:∃S0:World→Prop,S0=fun w'=>0<w'.heap.size+1:=⟨_,rfl⟩
    have HS0:=Lh hS0;clear hS0;have k0:=fun xw=>WS.at HS0 xw
    refine Yz (S:=S0) [0,1,2,3,4,5,6,7,8,9] ZK ZK (fun _ _ _ _ _ h=>h) ?hS (fun hSc=>?_)
    case hS=>
     rw[HS0.out];exact ZJ
    have hne0:Nonempty (WS S0):=⟨⟨_,hSc⟩⟩;simp only[List.map_cons,List.map_nil,Ld,Le]
    repeat
     first
     |((with_reducible refine YA ?_ ?_);exact rfl;go_big_quiet_step (fail);(try with_reducible refine wpQuiet_nil ?_);(try dsimp only))
     |((with_reducible refine YF ?_ ?_ (fun K hK=>?_))
       exact rfl;exact rfl;go_simp;(try go_wp2_with(fail));refine hK.out _ _ ?hS (fun hSc=>?_)
       case hS=>
        first
        |exact hSc
        |(rw[HS0.out]at hSc ⊢;obtain p0:=hSc;exact ZT)
       clear hK K)
    refine YB ?_;rw[HS0.out]at hSc;obtain p0:=hSc;clear hne0 HS0 k0;go_wp2;go_roundw
    case rel=>exact⟨k+min k (n-k),ZN,ZO,ZO,hh3,hb3 _ _ (YbD hb 1) (Nr _)⟩
    case measure=>simp[intOf];omega
  · obtain rfl:k=n:=by omega
    go_wp2;go_ret;exact⟨_,rfl,YlA (Nr _) (by simpa[YaA]using hh) ZS rfl ZO,hb⟩
end Go.Proofs.YtjlclkcmfokobaaGreatDoor
