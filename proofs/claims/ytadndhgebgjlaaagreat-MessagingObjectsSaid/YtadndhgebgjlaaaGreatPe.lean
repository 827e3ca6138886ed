/- Layer 2: lists of objects as trees, and what it is that a slice of nodes reads as one -/
import Derived.Test.YtadndhgebgjlaaaGreatPd
set_option linter.all false
namespace Go.Proofs.YtadndhgebgjlaaaGreat
open Go.RowKit
theorem m07{P:Prop}(h:P:=by
 obtain⟨a,c,hv,_⟩:=h;exact⟨a,c,hv⟩):P:=h
inductive Ns where
 |nil
 |cons (tag:Int) (val:List UInt8) (kids rest:Ns)
def Ns.len:Ns->Nat
 |.nil=>0
 |.cons _ _ _ r=>r.len+1
def Ns.app:Ns->Ns->Ns
 |.nil,m=>m
 |.cons t v k r,m=>.cons t v k (r.app m)
theorem Ns.len_app(l m:Ns):(l.app m).len=l.len+m.len:=by
 induction l with
 |nil=>simp [Ns.app,Ns.len]
 |cons t v k r _ ih=>simp [Ns.app,Ns.len,ih];omega
def kB(t:Int):Prop:= -9223372036854775808<=t/\t<=9223372036854775807
def NsAt(w:World)(S:Nat->Prop):Ns->Nat->Nat->Prop
 |.nil,_,_=>True
 |.cons t v kids rest,b,off=>
  w.cell? ⟨b,off,none⟩=some (.int .i64 t)/\kB t/\
  (∃x,w.cell? ⟨b,off+1,none⟩=some x/\BsS w S x v)/\
  (∃a c,w.cell? ⟨b,off+2,none⟩=some (.slice a kids.len c)/\kids.len<=c/\c<=maxLen/\kids.len<=2513169434843/\
    (0<kids.len->∃b' off',a=some ⟨b',off',none⟩/\S b'/\b'<w.heap.size/\NsAt w S kids b' off'))/\
  NsAt w S rest b (off+3)
def NsS(w:World)(S:Nat->Prop)(v:Value)(l:Ns):Prop:=
 ∃a c,v=.slice a l.len c/\l.len<=c/\c<=maxLen/\l.len<=2513169434843/\(0<l.len->∃b off,a=some ⟨b,off,none⟩/\S b/\b<w.heap.size/\NsAt w S l b off)
theorem zn{w w':World}{b:Nat}(e:w'.heap[b]?=w.heap[b]?)(h:b<w.heap.size):b<w'.heap.size:=by
 rcases Nat.lt_or_ge b w'.heap.size with h'|h'
 ·exact h'
 ·rw [Array.getElem?_eq_none h',Array.getElem?_eq_getElem h]at e;cases e
theorem NsAt.keep{w w':World}{S S':Nat->Prop}(hk:∀b,S b->b<w.heap.size->w'.heap[b]?=w.heap[b]?/\S' b):∀(l:Ns) (b off:Nat),S b->b<w.heap.size->NsAt w S l b off->NsAt w' S' l b off:=by
 intro l
 induction l with
 |nil=>intros;trivial
 |cons t v kids rest ihk ihr=>
  intro b off hb hl ⟨h1,h2,⟨x,h3,h4⟩,⟨a,c,h5,h6,h7,h8,h9⟩,h10⟩
  have hc:∀o,w'.cell? ⟨b,o,none⟩=w.cell? ⟨b,o,none⟩:=fun o=>by simp [World.cell?,(hk b hb hl).1]
  refine⟨(hc _).trans h1,h2,⟨x,(hc _).trans h3,h4.keep hk⟩,⟨a,c,(hc _).trans h5,h6,h7,h8,fun h0=> ?_⟩,ihr b (off+3) hb hl h10⟩
  obtain⟨b',off',e,s',l',r'⟩:=h9 h0
  exact⟨b',off',e,(hk b' s' l').2,zn (hk b' s' l').1 l',ihk b' off' s' l' r'⟩
theorem NsS.keep{w w':World}{S S':Nat->Prop}{v:Value}{l:Ns}(h:NsS w S v l)(hk:∀b,S b->b<w.heap.size->w'.heap[b]?=w.heap[b]?/\S' b):NsS w' S' v l:=by
 obtain⟨a,c,e,h1,h2,h3,h4⟩:=h
 refine⟨a,c,e,h1,h2,h3,fun h0=> ?_⟩
 obtain⟨b,off,ea,hb,hl,hr⟩:=h4 h0
 exact⟨b,off,ea,(hk b hb hl).2,zn (hk b hb hl).1 hl,NsAt.keep hk l b off hb hl hr⟩
end Go.Proofs.YtadndhgebgjlaaaGreat
