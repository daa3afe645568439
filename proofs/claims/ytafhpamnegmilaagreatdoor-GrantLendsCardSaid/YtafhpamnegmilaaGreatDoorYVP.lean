/- Tables cut: their limits. The reference of layer 12: Right, at tables within limits. -/
import Derived.Test.YtafhpamnegmilaaGreatDoorYDN
namespace Go.Proofs.YtafhpamnegmilaaGreatDoor
open Go Go.RowKit Go.Shelf
def jhK (L:List Ser):Prop:=∀ x∈L,x.sk.lim
def Ser.wnc (x:Ser):Prop:=x.wn/\I64 x.sk.cc
theorem jvA {L:List Ser} (h:∀ x∈L,Ser.wnc x):jhK (jh4 L):=fun x B=>by
 simp only[jh4,List.mem_map] at B;obtain⟨y,C,rfl⟩:=B;have A:=h y (List.mem_of_mem_take C);exact jvN A.1.1 A.2
theorem jwW {L:List Ser} (h:∀ x∈L,Ser.wn x) (hr:jas (jh4 L)=true):QT (jh4 L):=by
 refine⟨hr,fun x A=>⟨jof (fun y D=>(h y D).wf) x A,?_⟩⟩;have E:=((jbZ _).1 hr).2.1 x A;simp only[jaV,Bool.and_eq_true] at E;simp only[jh4,List.mem_map] at A;obtain⟨y,D,rfl⟩:=A;have B:=(h y (List.mem_of_mem_take D)).1;exact .of E.2 (fun n C=>B.e n (List.mem_of_mem_take C)) (fun n C=>B.c n (List.mem_of_mem_take C)) (fun z F=>(B.g z (List.mem_of_mem_take F)).2)
theorem jsc {l:List (Ser × SerP)} (h:jhK (l.map (·.1))):juQ l:=fun e A=>by
 have:=h e.1 (List.mem_map_of_mem A);exact⟨this.e,this.cc,this.g⟩
theorem jkQ (l:List (Ser × SerP)) (a:Option Addr) (len cap:Nat) (w:World) (A:Tab w.heap.size w a len cap l) (B:jdl l) (C:jhK (l.map (·.1))) :
  CR 30 #[.slice a len cap] w (.bool (jas (l.map (·.1)))) :=
 jiN l a len cap w A B (jsc C) (Nat.le_trans A.row.2.1 A.row.2.2.1)
end Go.Proofs.YtafhpamnegmilaaGreatDoor
