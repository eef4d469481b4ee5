/- The plain statement of CtrlKinds over the printed functions stands in the text that is imported. -/
import Derived.Test.YtbailgigabdhaaaDoorCtrlLaws
