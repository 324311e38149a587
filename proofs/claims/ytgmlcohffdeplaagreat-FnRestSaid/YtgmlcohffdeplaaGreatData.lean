/- The data of the program: plain structures, and the cells that stand for them. Written by gen.py. -/
import Derived.Test.YtgmlcohffdeplaaGreatBase
namespace Go.Proofs.YtgmlcohffdeplaaGreat
open Go.RowKit

structure Vec where
  A : Int
  B : Int
  C : Int
def Vec.enc (x : Vec) : List Value := [.int .i64 x.A, .int .i64 x.B, .int .i64 x.C]
def Vec.ok (x : Vec) : Prop := In64 x.A ∧ In64 x.B ∧ In64 x.C
theorem Vec.size (x : Vec) : x.enc.length = 3 := rfl
abbrev RVec : Rel Vec := Flat Vec.enc Vec.ok
theorem Vec.eq_iff {x y : Vec} : x = y ↔ x.A = y.A ∧ x.B = y.B ∧ x.C = y.C := by cases x; cases y; simp
instance : DecidableEq Vec := fun x y => decidable_of_iff (x.A = y.A ∧ x.B = y.B ∧ x.C = y.C) Vec.eq_iff.symm

structure Dep where
  Id : Int
  For : Int
def Dep.enc (x : Dep) : List Value := [.int .i64 x.Id, .int .i64 x.For]
def Dep.ok (x : Dep) : Prop := In64 x.Id ∧ In64 x.For
theorem Dep.size (x : Dep) : x.enc.length = 2 := rfl
abbrev RDep : Rel Dep := Flat Dep.enc Dep.ok
theorem Dep.eq_iff {x y : Dep} : x = y ↔ x.Id = y.Id ∧ x.For = y.For := by cases x; cases y; simp
instance : DecidableEq Dep := fun x y => decidable_of_iff (x.Id = y.Id ∧ x.For = y.For) Dep.eq_iff.symm

structure Account where
  Name : ByteArray
  Share : Int
  Used : Int
def Account.enc (x : Account) : List Value := [.string x.Name, .int .i64 x.Share, .int .i64 x.Used]
def Account.ok (x : Account) : Prop := x.Name.size ≤ maxLen ∧ In64 x.Share ∧ In64 x.Used
theorem Account.size (x : Account) : x.enc.length = 3 := rfl
abbrev RAccount : Rel Account := Flat Account.enc Account.ok
theorem Account.eq_iff {x y : Account} : x = y ↔ x.Name = y.Name ∧ x.Share = y.Share ∧ x.Used = y.Used := by cases x; cases y; simp
instance : DecidableEq Account := fun x y => decidable_of_iff (x.Name = y.Name ∧ x.Share = y.Share ∧ x.Used = y.Used) Account.eq_iff.symm

structure Bill where
  Id : Int
  From : Int
  To : Int
  Nodes : Int
  Need : Vec
def Bill.enc (x : Bill) : List Value := [.int .i64 x.Id, .int .i64 x.From, .int .i64 x.To, .int .i64 x.Nodes, .int .i64 x.Need.A, .int .i64 x.Need.B, .int .i64 x.Need.C]
def Bill.ok (x : Bill) : Prop := In64 x.Id ∧ In64 x.From ∧ In64 x.To ∧ In64 x.Nodes ∧ In64 x.Need.A ∧ In64 x.Need.B ∧ In64 x.Need.C
theorem Bill.size (x : Bill) : x.enc.length = 7 := rfl
abbrev RBill : Rel Bill := Flat Bill.enc Bill.ok
theorem Bill.eq_iff {x y : Bill} : x = y ↔ x.Id = y.Id ∧ x.From = y.From ∧ x.To = y.To ∧ x.Nodes = y.Nodes ∧ x.Need = y.Need := by cases x; cases y; simp
instance : DecidableEq Bill := fun x y => decidable_of_iff (x.Id = y.Id ∧ x.From = y.From ∧ x.To = y.To ∧ x.Nodes = y.Nodes ∧ x.Need = y.Need) Bill.eq_iff.symm

structure Owner where
  Id : Int
  Name : ByteArray
def Owner.enc (x : Owner) : List Value := [.int .i64 x.Id, .string x.Name]
def Owner.ok (x : Owner) : Prop := In64 x.Id ∧ x.Name.size ≤ maxLen
theorem Owner.size (x : Owner) : x.enc.length = 2 := rfl
abbrev ROwner : Rel Owner := Flat Owner.enc Owner.ok
theorem Owner.eq_iff {x y : Owner} : x = y ↔ x.Id = y.Id ∧ x.Name = y.Name := by cases x; cases y; simp
instance : DecidableEq Owner := fun x y => decidable_of_iff (x.Id = y.Id ∧ x.Name = y.Name) Owner.eq_iff.symm

structure Span where
  Lo : Int
  Hi : Int
  Step : Int
def Span.enc (x : Span) : List Value := [.int .i64 x.Lo, .int .i64 x.Hi, .int .i64 x.Step]
def Span.ok (x : Span) : Prop := In64 x.Lo ∧ In64 x.Hi ∧ In64 x.Step
theorem Span.size (x : Span) : x.enc.length = 3 := rfl
abbrev RSpan : Rel Span := Flat Span.enc Span.ok
theorem Span.eq_iff {x y : Span} : x = y ↔ x.Lo = y.Lo ∧ x.Hi = y.Hi ∧ x.Step = y.Step := by cases x; cases y; simp
instance : DecidableEq Span := fun x y => decidable_of_iff (x.Lo = y.Lo ∧ x.Hi = y.Hi ∧ x.Step = y.Step) Span.eq_iff.symm

structure Job where
  Id : Int
  Prio : Int
  Nodes : Int
  Need : Vec
  Lic : Vec
  Wall : Int
  Level : Int
def Job.enc (x : Job) : List Value := [.int .i64 x.Id, .int .i64 x.Prio, .int .i64 x.Nodes, .int .i64 x.Need.A, .int .i64 x.Need.B, .int .i64 x.Need.C, .int .i64 x.Lic.A, .int .i64 x.Lic.B, .int .i64 x.Lic.C, .int .i64 x.Wall, .int .i64 x.Level]
def Job.ok (x : Job) : Prop := In64 x.Id ∧ In64 x.Prio ∧ In64 x.Nodes ∧ In64 x.Need.A ∧ In64 x.Need.B ∧ In64 x.Need.C ∧ In64 x.Lic.A ∧ In64 x.Lic.B ∧ In64 x.Lic.C ∧ In64 x.Wall ∧ In64 x.Level
theorem Job.size (x : Job) : x.enc.length = 11 := rfl
abbrev RJob : Rel Job := Flat Job.enc Job.ok
theorem Job.eq_iff {x y : Job} : x = y ↔ x.Id = y.Id ∧ x.Prio = y.Prio ∧ x.Nodes = y.Nodes ∧ x.Need = y.Need ∧ x.Lic = y.Lic ∧ x.Wall = y.Wall ∧ x.Level = y.Level := by cases x; cases y; simp
instance : DecidableEq Job := fun x y => decidable_of_iff (x.Id = y.Id ∧ x.Prio = y.Prio ∧ x.Nodes = y.Nodes ∧ x.Need = y.Need ∧ x.Lic = y.Lic ∧ x.Wall = y.Wall ∧ x.Level = y.Level) Job.eq_iff.symm

structure Node where
  Leaf : Int
  Cap : Vec
def Node.enc (x : Node) : List Value := [.int .i64 x.Leaf, .int .i64 x.Cap.A, .int .i64 x.Cap.B, .int .i64 x.Cap.C]
def Node.ok (x : Node) : Prop := In64 x.Leaf ∧ In64 x.Cap.A ∧ In64 x.Cap.B ∧ In64 x.Cap.C
theorem Node.size (x : Node) : x.enc.length = 4 := rfl
abbrev RNode : Rel Node := Flat Node.enc Node.ok
theorem Node.eq_iff {x y : Node} : x = y ↔ x.Leaf = y.Leaf ∧ x.Cap = y.Cap := by cases x; cases y; simp
instance : DecidableEq Node := fun x y => decidable_of_iff (x.Leaf = y.Leaf ∧ x.Cap = y.Cap) Node.eq_iff.symm

structure Pt where
  At : Int
  Free : Vec
def Pt.enc (x : Pt) : List Value := [.int .i64 x.At, .int .i64 x.Free.A, .int .i64 x.Free.B, .int .i64 x.Free.C]
def Pt.ok (x : Pt) : Prop := In64 x.At ∧ In64 x.Free.A ∧ In64 x.Free.B ∧ In64 x.Free.C
theorem Pt.size (x : Pt) : x.enc.length = 4 := rfl
abbrev RPt : Rel Pt := Flat Pt.enc Pt.ok
theorem Pt.eq_iff {x y : Pt} : x = y ↔ x.At = y.At ∧ x.Free = y.Free := by cases x; cases y; simp
instance : DecidableEq Pt := fun x y => decidable_of_iff (x.At = y.At ∧ x.Free = y.Free) Pt.eq_iff.symm

structure End where
  Id : Int
  At : Int
  Why : Int
def End.enc (x : End) : List Value := [.int .i64 x.Id, .int .i64 x.At, .int .i64 x.Why]
def End.ok (x : End) : Prop := In64 x.Id ∧ In64 x.At ∧ In64 x.Why
theorem End.size (x : End) : x.enc.length = 3 := rfl
abbrev REnd : Rel End := Flat End.enc End.ok
theorem End.eq_iff {x y : End} : x = y ↔ x.Id = y.Id ∧ x.At = y.At ∧ x.Why = y.Why := by cases x; cases y; simp
instance : DecidableEq End := fun x y => decidable_of_iff (x.Id = y.Id ∧ x.At = y.At ∧ x.Why = y.Why) End.eq_iff.symm

structure Use3 where
  A : Int
  B : Int
  C : Int
def Use3.enc (x : Use3) : List Value := [.int .i64 x.A, .int .i64 x.B, .int .i64 x.C]
def Use3.ok (x : Use3) : Prop := In64 x.A ∧ In64 x.B ∧ In64 x.C
theorem Use3.size (x : Use3) : x.enc.length = 3 := rfl
abbrev RUse3 : Rel Use3 := Flat Use3.enc Use3.ok
theorem Use3.eq_iff {x y : Use3} : x = y ↔ x.A = y.A ∧ x.B = y.B ∧ x.C = y.C := by cases x; cases y; simp
instance : DecidableEq Use3 := fun x y => decidable_of_iff (x.A = y.A ∧ x.B = y.B ∧ x.C = y.C) Use3.eq_iff.symm

structure Quota where
  Name : ByteArray
  Jobs : Int
  Nodes : Int
  Res : Vec
def Quota.enc (x : Quota) : List Value := [.string x.Name, .int .i64 x.Jobs, .int .i64 x.Nodes, .int .i64 x.Res.A, .int .i64 x.Res.B, .int .i64 x.Res.C]
def Quota.ok (x : Quota) : Prop := x.Name.size ≤ maxLen ∧ In64 x.Jobs ∧ In64 x.Nodes ∧ In64 x.Res.A ∧ In64 x.Res.B ∧ In64 x.Res.C
theorem Quota.size (x : Quota) : x.enc.length = 6 := rfl
abbrev RQuota : Rel Quota := Flat Quota.enc Quota.ok
theorem Quota.eq_iff {x y : Quota} : x = y ↔ x.Name = y.Name ∧ x.Jobs = y.Jobs ∧ x.Nodes = y.Nodes ∧ x.Res = y.Res := by cases x; cases y; simp
instance : DecidableEq Quota := fun x y => decidable_of_iff (x.Name = y.Name ∧ x.Jobs = y.Jobs ∧ x.Nodes = y.Nodes ∧ x.Res = y.Res) Quota.eq_iff.symm

structure Hold where
  Name : ByteArray
  Job : Job
def Hold.enc (x : Hold) : List Value := [.string x.Name, .int .i64 x.Job.Id, .int .i64 x.Job.Prio, .int .i64 x.Job.Nodes, .int .i64 x.Job.Need.A, .int .i64 x.Job.Need.B, .int .i64 x.Job.Need.C, .int .i64 x.Job.Lic.A, .int .i64 x.Job.Lic.B, .int .i64 x.Job.Lic.C, .int .i64 x.Job.Wall, .int .i64 x.Job.Level]
def Hold.ok (x : Hold) : Prop := x.Name.size ≤ maxLen ∧ In64 x.Job.Id ∧ In64 x.Job.Prio ∧ In64 x.Job.Nodes ∧ In64 x.Job.Need.A ∧ In64 x.Job.Need.B ∧ In64 x.Job.Need.C ∧ In64 x.Job.Lic.A ∧ In64 x.Job.Lic.B ∧ In64 x.Job.Lic.C ∧ In64 x.Job.Wall ∧ In64 x.Job.Level
theorem Hold.size (x : Hold) : x.enc.length = 12 := rfl
abbrev RHold : Rel Hold := Flat Hold.enc Hold.ok
theorem Hold.eq_iff {x y : Hold} : x = y ↔ x.Name = y.Name ∧ x.Job = y.Job := by cases x; cases y; simp
instance : DecidableEq Hold := fun x y => decidable_of_iff (x.Name = y.Name ∧ x.Job = y.Job) Hold.eq_iff.symm

structure Spec where
  Spans : List Span
  Most : Int
theorem Spec.eq_iff {x y : Spec} : x = y ↔ x.Spans = y.Spans ∧ x.Most = y.Most := by cases x; cases y; simp
instance : DecidableEq Spec := fun x y => decidable_of_iff (x.Spans = y.Spans ∧ x.Most = y.Most) Spec.eq_iff.symm

structure Window where
  From : Int
  To : Int
  Nodes : List Int
theorem Window.eq_iff {x y : Window} : x = y ↔ x.From = y.From ∧ x.To = y.To ∧ x.Nodes = y.Nodes := by cases x; cases y; simp
instance : DecidableEq Window := fun x y => decidable_of_iff (x.From = y.From ∧ x.To = y.To ∧ x.Nodes = y.Nodes) Window.eq_iff.symm

structure Prof where
  Pts : List Pt
theorem Prof.eq_iff {x y : Prof} : x = y ↔ x.Pts = y.Pts := by cases x; cases y; simp
instance : DecidableEq Prof := fun x y => decidable_of_iff (x.Pts = y.Pts) Prof.eq_iff.symm

structure Topo where
  Parents : List Int
  Nodes : List Node
theorem Topo.eq_iff {x y : Topo} : x = y ↔ x.Parents = y.Parents ∧ x.Nodes = y.Nodes := by cases x; cases y; simp
instance : DecidableEq Topo := fun x y => decidable_of_iff (x.Parents = y.Parents ∧ x.Nodes = y.Nodes) Topo.eq_iff.symm

structure Run where
  Job : Job
  At : Int
  Nodes : List Int
theorem Run.eq_iff {x y : Run} : x = y ↔ x.Job = y.Job ∧ x.At = y.At ∧ x.Nodes = y.Nodes := by cases x; cases y; simp
instance : DecidableEq Run := fun x y => decidable_of_iff (x.Job = y.Job ∧ x.At = y.At ∧ x.Nodes = y.Nodes) Run.eq_iff.symm

structure Room where
  Topo : Topo
  Up : List Bool
  Profs : List Prof
  Lics : Prof
theorem Room.eq_iff {x y : Room} : x = y ↔ x.Topo = y.Topo ∧ x.Up = y.Up ∧ x.Profs = y.Profs ∧ x.Lics = y.Lics := by cases x; cases y; simp
instance : DecidableEq Room := fun x y => decidable_of_iff (x.Topo = y.Topo ∧ x.Up = y.Up ∧ x.Profs = y.Profs ∧ x.Lics = y.Lics) Room.eq_iff.symm

structure State where
  Topo : Topo
  Up : List Bool
  Lic : Vec
  Depth : Int
  Now : Int
  Queue : List Job
  Runs : List Run
  Ends : List End
theorem State.eq_iff {x y : State} : x = y ↔ x.Topo = y.Topo ∧ x.Up = y.Up ∧ x.Lic = y.Lic ∧ x.Depth = y.Depth ∧ x.Now = y.Now ∧ x.Queue = y.Queue ∧ x.Runs = y.Runs ∧ x.Ends = y.Ends := by cases x; cases y; simp
instance : DecidableEq State := fun x y => decidable_of_iff (x.Topo = y.Topo ∧ x.Up = y.Up ∧ x.Lic = y.Lic ∧ x.Depth = y.Depth ∧ x.Now = y.Now ∧ x.Queue = y.Queue ∧ x.Runs = y.Runs ∧ x.Ends = y.Ends) State.eq_iff.symm

def encInt (n : Int) : List Value := [.int .i64 n]
theorem encInt_size (n : Int) : (encInt n).length = 1 := rfl
abbrev RInt : Rel Int := Flat encInt In64

end Go.Proofs.YtgmlcohffdeplaaGreat
