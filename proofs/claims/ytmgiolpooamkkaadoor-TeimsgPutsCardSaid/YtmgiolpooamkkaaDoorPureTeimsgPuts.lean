/- The plain statement of TeimsgPuts over the printed functions stands in the text that is imported. -/
import Derived.Test.YtmgiolpooamkkaaDoorLawsTeimsgPutsP
