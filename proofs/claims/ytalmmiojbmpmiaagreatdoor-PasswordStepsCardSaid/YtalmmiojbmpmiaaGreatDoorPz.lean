/- Words for exchanges of a password connection in memory -/
import Derived.Test.YtalmmiojbmpmiaaGreatDoorPy
set_option linter.all false
namespace Go.Proofs.YtalmmiojbmpmiaaGreatDoor
open Go.RowKit Go.Deep
theorem j4{w:World}{p:Nat}{a b c d e f g h i j k l:Value}{t:TypeId}(hh:w.heap[p]?=some (.cells #[a,b,c,d,e,f,g,h,i,j,k,l] t (0,0))):
 w.cell? ⟨p,0,none⟩=some a/\w.cell? ⟨p,1,none⟩=some b/\w.cell? ⟨p,2,none⟩=some c/\w.cell? ⟨p,3,none⟩=some d/\w.cell? ⟨p,4,none⟩=some e/\w.cell? ⟨p,5,none⟩=some f/\w.cell? ⟨p,6,none⟩=some g/\w.cell? ⟨p,7,none⟩=some h/\w.cell? ⟨p,8,none⟩=some i/\w.cell? ⟨p,9,none⟩=some j/\w.cell? ⟨p,10,none⟩=some k/\w.cell? ⟨p,11,none⟩=some l/\∀o,w.frozen? ⟨p,o,none⟩=false:=by
 have key:∀o v,#[a,b,c,d,e,f,g,h,i,j,k,l][o]?=some v->w.cell? ⟨p,o,none⟩=some v:=fun o v e=>by rw [cell_of_row _ _ _ _ _ _ hh];exact e
 exact⟨key 0 _ rfl,key 1 _ rfl,key 2 _ rfl,key 3 _ rfl,key 4 _ rfl,key 5 _ rfl,key 6 _ rfl,key 7 _ rfl,key 8 _ rfl,key 9 _ rfl,key 10 _ rfl,key 11 _ rfl,fun o=>by simp [World.frozen?,hh]⟩
def ExL(w:World)(S:Nat->Prop)(v:Value)(e:Exg):Prop:=
 ∃s n a b,v=.agg #[.int .i64 e.kd,s,.int .i64 e.pr,.int .i64 e.st,n,.int .i64 e.x,.int .i64 e.g,.int .i64 e.own,.int .i64 e.oth,a,b,.int .i64 e.ct]/\BsS w S s e.sec/\BsS w S n e.non/\BsS w S a e.k1/\BsS w S b e.k2
end Go.Proofs.YtalmmiojbmpmiaaGreatDoor
