/-
  The table of the functions.
-/
import Derived.Test.YtahldjbgkkfdgaaGreatDoorShB1
import Derived.Test.YtahldjbgkkfdgaaGreatDoorShB2
set_option linter.all false
section
namespace Go.Sh

/-- Does a list begin with another one? -/
def pre : List Nat → List Nat → Bool
  | [], _ => true
  | _ :: _, [] => false
  | a :: l, b :: s => Nat.beq a b && pre l s

/-- The first place of a list in another one. -/
def ixs : List Nat → List Nat → Nat → Int
  | s, sub, i => match pre sub s with
    | true => Int.ofNat i
    | false => match s with
      | [] => -1
      | _ :: s' => ixs s' sub (i + 1)

def natIndex (args : List SV) (_ : Heap) : Option SV :=
  match args with
  | [.str s, .str sub] => match Nat.blt s.length 4294967281 with
    | true => some (.int .i64 (ixs s sub 0))
    | false => none
  | _ => none

def natSorted (args : List SV) (H : Heap) : Option SV :=
  match args with
  | [.func 426 [] [.ptr b 0]] => match H.get b with
    | some (.row [.map m] _ true _ _) => match H.get m with
      | some (.map [] _) => some .nils
      | _ => none
    | _ => none
  | _ => none

noncomputable def tabL : List (Nat × SFun) := [(384, .native natSorted), (202, .native natIndex), (267, .native natIndex), (132, .dnative fun _ => true), (3, .code c3), (4, .code c4), (5, .code c5), (6, .code c6), (7, .code c7), (8, .code c8), (9, .code c9), (10, .code c10), (11, .code c11), (12, .code c12), (13, .code c13), (14, .code c14), (15, .code c15), (16, .code c16), (17, .code c17), (18, .code c18), (19, .code c19), (20, .code c20), (21, .code c21), (22, .code c22), (23, .code c23), (24, .code c24), (25, .code c25), (26, .code c26), (27, .code c27), (28, .code c28), (29, .code c29), (30, .code c30), (31, .code c31), (32, .code c32), (33, .code c33), (34, .code c34), (35, .code c35), (36, .code c36), (37, .code c37), (38, .code c38), (39, .code c39), (40, .code c40), (41, .code c41), (42, .code c42), (43, .code c43), (44, .code c44), (45, .code c45), (46, .code c46), (48, .code c48), (49, .code c49), (50, .code c50), (52, .code c52), (53, .code c53), (55, .code c55), (56, .code c56), (58, .code c58), (61, .code c61), (62, .code c62), (63, .code c63), (64, .code c64), (66, .code c66), (69, .code c69), (70, .code c70), (72, .code c72), (73, .code c73), (74, .code c74), (75, .code c75), (77, .code c77), (78, .code c78), (79, .code c79), (80, .code c80), (81, .code c81), (82, .code c82), (83, .code c83), (84, .code c84), (85, .code c85), (86, .code c86), (87, .code c87), (91, .code c91), (93, .code c93), (95, .code c95), (96, .code c96), (98, .code c98), (99, .code c99), (100, .code c100), (101, .code c101), (102, .code c102), (104, .code c104), (105, .code c105), (108, .code c108), (109, .code c109), (111, .code c111), (113, .code c113), (117, .code c117), (118, .code c118), (119, .code c119), (120, .code c120), (121, .code c121), (122, .code c122), (125, .code c125), (127, .code c127), (133, .code c133), (135, .code c135), (136, .code c136), (137, .code c137), (139, .code c139), (141, .code c141), (142, .code c142), (147, .code c147), (150, .code c150), (151, .code c151), (152, .code c152), (158, .code c158), (159, .code c159), (160, .code c160), (161, .code c161), (163, .code c163), (164, .code c164), (166, .code c166), (167, .code c167), (168, .code c168), (170, .code c170), (172, .code c172), (173, .code c173), (175, .code c175), (186, .code c186), (187, .code c187), (188, .code c188), (189, .code c189), (191, .code c191), (198, .code c198), (201, .code c201), (203, .code c203), (204, .code c204), (206, .code c206), (207, .code c207), (209, .code c209), (212, .code c212), (221, .code c221), (225, .code c225), (228, .code c228), (229, .code c229), (231, .code c231), (234, .code c234), (236, .code c236), (237, .code c237), (238, .code c238), (239, .code c239), (247, .code c247), (256, .code c256), (257, .code c257), (262, .code c262), (264, .code c264), (268, .code c268), (269, .code c269), (280, .code c280), (281, .code c281), (282, .code c282), (284, .code c284), (285, .code c285), (286, .code c286), (287, .code c287), (288, .code c288), (297, .code c297), (311, .code c311), (312, .code c312), (313, .code c313), (314, .code c314), (315, .code c315), (318, .code c318), (319, .code c319), (320, .code c320), (321, .code c321), (322, .code c322), (346, .code c346), (347, .code c347), (348, .code c348), (351, .code c351), (352, .code c352), (353, .code c353), (378, .code c378), (379, .code c379), (381, .code c381), (385, .code c385), (536, .code c536)]
def Tr.ofL {α : Type} : List (Nat × α) → Tr α
  | [] => .leaf
  | (n, a) :: l => (Tr.ofL l).put n a
noncomputable def tabT (f : FuncId) : Option SFun := (Tr.ofL tabL).get f
def h0 : Heap := ⟨1000, .leaf⟩
end Go.Sh
end
